/- The laws of package evkey on items, keys and events, as contracts. -/
import Derived.Test.YtepepidjefpckaaE2
namespace Go.Proofs.Ytepepidjefpckaa.Abs
open Go.Proofs
set_option maxRecDepth 10000
set_option linter.unusedSimpArgs false
set_option linter.unusedVariables false

theorem cmpI_cases (a b : Int) : (cmpI a b = -1 ∧ a < b) ∨ (cmpI a b = 0 ∧ a = b) ∨ (cmpI a b = 1 ∧ b < a) := by
  unfold cmpI; split
  · left; omega
  · split
    · right; right; omega
    · right; left; omega
theorem cmpItem_range (x y : Item) : -1 ≤ cmpItem x y ∧ cmpItem x y ≤ 1 := by
  unfold cmpItem or2
  rcases cmpI_cases x.time y.time with h | h | h <;> rcases cmpI_cases x.seq y.seq with g | g | g <;> simp [h.1, g.1]
theorem cmpItem_anti (x y : Item) : cmpItem x y = - cmpItem y x := by
  unfold cmpItem or2
  rcases cmpI_cases x.time y.time with h | h | h <;> rcases cmpI_cases x.seq y.seq with g | g | g <;> rcases cmpI_cases y.time x.time with h' | h' | h' <;> rcases cmpI_cases y.seq x.seq with g' | g' | g' <;> first | (simp [h.1, g.1, h'.1, g'.1]; done) | omega
theorem cmpItem_zero (x y : Item) : cmpItem x y = 0 ↔ (x.time = y.time ∧ x.seq = y.seq) := by
  unfold cmpItem or2
  rcases cmpI_cases x.time y.time with h | h | h <;> rcases cmpI_cases x.seq y.seq with g | g | g <;> simp [h.1, g.1] <;> omega
theorem cmpItem_trans (x y z : Item) (h1 : ¬ 0 < cmpItem x y) (h2 : ¬ 0 < cmpItem y z) : cmpItem x z = min (cmpItem x y) (cmpItem y z) := by
  have t1 := cmpI_cases x.time y.time
  have t2 := cmpI_cases y.time z.time
  have t3 := cmpI_cases x.time z.time
  have s1 := cmpI_cases x.seq y.seq
  have s2 := cmpI_cases y.seq z.seq
  have s3 := cmpI_cases x.seq z.seq
  unfold cmpItem or2 at *
  generalize cmpI x.time y.time = a1 at *
  generalize cmpI y.time z.time = a2 at *
  generalize cmpI x.time z.time = a3 at *
  generalize cmpI x.seq y.seq = b1 at *
  generalize cmpI y.seq z.seq = b2 at *
  generalize cmpI x.seq z.seq = b3 at *
  have e1 : min (if a1 = 0 then b1 else a1) (if a2 = 0 then b2 else a2) = (if (if a1 = 0 then b1 else a1) ≤ (if a2 = 0 then b2 else a2) then (if a1 = 0 then b1 else a1) else (if a2 = 0 then b2 else a2)) := rfl
  rw [e1]
  by_cases q1 : a1 = 0 <;> by_cases q2 : a2 = 0 <;> by_cases q3 : a3 = 0 <;> simp only [q1, q2, q3, if_true, if_false] at h1 h2 ⊢ <;> split <;> omega

theorem evkeyItems (x y z : Item) : PSpec Try.prog 9 [x.v, y.v, z.v] (V.bool true) := by
  have r1 := cmpItem_range x y
  have r2 := cmpItem_range y x
  have r3 := cmpItem_anti x y
  have r4 := cmpItem_zero x y
  refine pspec tab_ok mix Try.func9 (by kernel_rfl) rfl rfl ?_
  ((conv => whnf); (repeat first | (refine wrB (by omega) ?_; conv => whnf) | (refine okB (by kernel_rfl) ?_; conv => whnf) | (refine cb (by first | rfl | omega | (simp; done) | (simp; omega)) ?_; conv => whnf) | (refine idxB_at (by decide) rfl ?_; conv => whnf) | (refine atB_at (by decide) (by decide) ?_; conv => whnf) | (refine getB_lit _ rfl ?_; conv => whnf) | (refine cnd tab_ok mix ?_; conv => whnf) | trivial))
  refine callB headC ?_
  ((conv => whnf); (repeat first | (refine wrB (by omega) ?_; conv => whnf) | (refine okB (by kernel_rfl) ?_; conv => whnf) | (refine cb (by first | rfl | omega | (simp; done) | (simp; omega)) ?_; conv => whnf) | (refine idxB_at (by decide) rfl ?_; conv => whnf) | (refine atB_at (by decide) (by decide) ?_; conv => whnf) | (refine getB_lit _ rfl ?_; conv => whnf) | (refine cnd tab_ok mix ?_; conv => whnf) | trivial))
  refine callB (compareItems x y) ?_
  ((conv => whnf); (repeat first | (refine wrB (by omega) ?_; conv => whnf) | (refine okB (by kernel_rfl) ?_; conv => whnf) | (refine cb (by first | rfl | omega | (simp; done) | (simp; omega)) ?_; conv => whnf) | (refine idxB_at (by decide) rfl ?_; conv => whnf) | (refine atB_at (by decide) (by decide) ?_; conv => whnf) | (refine getB_lit _ rfl ?_; conv => whnf) | (refine cnd tab_ok mix ?_; conv => whnf) | trivial))
  refine callB (compareItems y z) ?_
  ((conv => whnf); (repeat first | (refine wrB (by omega) ?_; conv => whnf) | (refine okB (by kernel_rfl) ?_; conv => whnf) | (refine cb (by first | rfl | omega | (simp; done) | (simp; omega)) ?_; conv => whnf) | (refine idxB_at (by decide) rfl ?_; conv => whnf) | (refine atB_at (by decide) (by decide) ?_; conv => whnf) | (refine getB_lit _ rfl ?_; conv => whnf) | (refine cnd tab_ok mix ?_; conv => whnf) | trivial))
  refine callB (compareItems y x) ?_
  ((conv => whnf); (repeat first | (refine wrB (by omega) ?_; conv => whnf) | (refine okB (by kernel_rfl) ?_; conv => whnf) | (refine cb (by first | rfl | omega | (simp; done) | (simp; omega)) ?_; conv => whnf) | (refine idxB_at (by decide) rfl ?_; conv => whnf) | (refine atB_at (by decide) (by decide) ?_; conv => whnf) | (refine getB_lit _ rfl ?_; conv => whnf) | (refine cnd tab_ok mix ?_; conv => whnf) | trivial))
  refine br_ndec (fun h => absurd (by omega) h) (fun h => ?_)
  ((conv => whnf); (repeat first | (refine wrB (by omega) ?_; conv => whnf) | (refine okB (by kernel_rfl) ?_; conv => whnf) | (refine cb (by first | rfl | omega | (simp; done) | (simp; omega)) ?_; conv => whnf) | (refine idxB_at (by decide) rfl ?_; conv => whnf) | (refine atB_at (by decide) (by decide) ?_; conv => whnf) | (refine getB_lit _ rfl ?_; conv => whnf) | (refine cnd tab_ok mix ?_; conv => whnf) | trivial))
  refine br_dec (fun h => absurd h (by omega)) (fun h => ?_)
  ((conv => whnf); (repeat first | (refine wrB (by omega) ?_; conv => whnf) | (refine okB (by kernel_rfl) ?_; conv => whnf) | (refine cb (by first | rfl | omega | (simp; done) | (simp; omega)) ?_; conv => whnf) | (refine idxB_at (by decide) rfl ?_; conv => whnf) | (refine atB_at (by decide) (by decide) ?_; conv => whnf) | (refine getB_lit _ rfl ?_; conv => whnf) | (refine cnd tab_ok mix ?_; conv => whnf) | trivial))
  refine br_dec (fun h => absurd h (by omega)) (fun h => ?_)
  ((conv => whnf); (repeat first | (refine wrB (by omega) ?_; conv => whnf) | (refine okB (by kernel_rfl) ?_; conv => whnf) | (refine cb (by first | rfl | omega | (simp; done) | (simp; omega)) ?_; conv => whnf) | (refine idxB_at (by decide) rfl ?_; conv => whnf) | (refine atB_at (by decide) (by decide) ?_; conv => whnf) | (refine getB_lit _ rfl ?_; conv => whnf) | (refine cnd tab_ok mix ?_; conv => whnf) | trivial))
  have fin : ∀ {b : Bool}, (!(decide (cmpItem x y = 0) == b)) = false ↔ (cmpItem x y = 0 ↔ b = true) := by intro b; cases b <;> simp
  have r5 := cmpItem_trans x y z
  refine br_dec (fun g => ?_) (fun g => ?_)
  · ((conv => whnf); (repeat first | (refine wrB (by omega) ?_; conv => whnf) | (refine okB (by kernel_rfl) ?_; conv => whnf) | (refine cb (by first | rfl | omega | (simp; done) | (simp; omega)) ?_; conv => whnf) | (refine idxB_at (by decide) rfl ?_; conv => whnf) | (refine atB_at (by decide) (by decide) ?_; conv => whnf) | (refine getB_lit _ rfl ?_; conv => whnf) | (refine cnd tab_ok mix ?_; conv => whnf) | trivial))
    refine br_no (fin.2 (by rw [r4]; simp [g])) ?_
    ((conv => whnf); (repeat first | (refine wrB (by omega) ?_; conv => whnf) | (refine okB (by kernel_rfl) ?_; conv => whnf) | (refine cb (by first | rfl | omega | (simp; done) | (simp; omega)) ?_; conv => whnf) | (refine idxB_at (by decide) rfl ?_; conv => whnf) | (refine atB_at (by decide) (by decide) ?_; conv => whnf) | (refine getB_lit _ rfl ?_; conv => whnf) | (refine cnd tab_ok mix ?_; conv => whnf) | trivial))
    refine br_dec (fun g1 => ?_) (fun g1 => ?_) <;> ((conv => whnf); (repeat first | (refine wrB (by omega) ?_; conv => whnf) | (refine okB (by kernel_rfl) ?_; conv => whnf) | (refine cb (by first | rfl | omega | (simp; done) | (simp; omega)) ?_; conv => whnf) | (refine idxB_at (by decide) rfl ?_; conv => whnf) | (refine atB_at (by decide) (by decide) ?_; conv => whnf) | (refine getB_lit _ rfl ?_; conv => whnf) | (refine cnd tab_ok mix ?_; conv => whnf) | trivial))
    · exact .same rfl
    · refine br_dec (fun g2 => ?_) (fun g2 => ?_) <;> ((conv => whnf); (repeat first | (refine wrB (by omega) ?_; conv => whnf) | (refine okB (by kernel_rfl) ?_; conv => whnf) | (refine cb (by first | rfl | omega | (simp; done) | (simp; omega)) ?_; conv => whnf) | (refine idxB_at (by decide) rfl ?_; conv => whnf) | (refine atB_at (by decide) (by decide) ?_; conv => whnf) | (refine getB_lit _ rfl ?_; conv => whnf) | (refine cnd tab_ok mix ?_; conv => whnf) | trivial))
      · exact .same rfl
      · refine callB (compareItems x z) ?_
        ((conv => whnf); (repeat first | (refine wrB (by omega) ?_; conv => whnf) | (refine okB (by kernel_rfl) ?_; conv => whnf) | (refine cb (by first | rfl | omega | (simp; done) | (simp; omega)) ?_; conv => whnf) | (refine idxB_at (by decide) rfl ?_; conv => whnf) | (refine atB_at (by decide) (by decide) ?_; conv => whnf) | (refine getB_lit _ rfl ?_; conv => whnf) | (refine cnd tab_ok mix ?_; conv => whnf) | trivial))
        exact .same (by rw [r5 g1 g2]; simp; omega)
  · ((conv => whnf); (repeat first | (refine wrB (by omega) ?_; conv => whnf) | (refine okB (by kernel_rfl) ?_; conv => whnf) | (refine cb (by first | rfl | omega | (simp; done) | (simp; omega)) ?_; conv => whnf) | (refine idxB_at (by decide) rfl ?_; conv => whnf) | (refine atB_at (by decide) (by decide) ?_; conv => whnf) | (refine getB_lit _ rfl ?_; conv => whnf) | (refine cnd tab_ok mix ?_; conv => whnf) | trivial))
    refine br_no (fin.2 (by rw [r4]; simp [g])) ?_
    ((conv => whnf); (repeat first | (refine wrB (by omega) ?_; conv => whnf) | (refine okB (by kernel_rfl) ?_; conv => whnf) | (refine cb (by first | rfl | omega | (simp; done) | (simp; omega)) ?_; conv => whnf) | (refine idxB_at (by decide) rfl ?_; conv => whnf) | (refine atB_at (by decide) (by decide) ?_; conv => whnf) | (refine getB_lit _ rfl ?_; conv => whnf) | (refine cnd tab_ok mix ?_; conv => whnf) | trivial))
    refine br_dec (fun g1 => ?_) (fun g1 => ?_) <;> ((conv => whnf); (repeat first | (refine wrB (by omega) ?_; conv => whnf) | (refine okB (by kernel_rfl) ?_; conv => whnf) | (refine cb (by first | rfl | omega | (simp; done) | (simp; omega)) ?_; conv => whnf) | (refine idxB_at (by decide) rfl ?_; conv => whnf) | (refine atB_at (by decide) (by decide) ?_; conv => whnf) | (refine getB_lit _ rfl ?_; conv => whnf) | (refine cnd tab_ok mix ?_; conv => whnf) | trivial))
    · exact .same rfl
    · refine br_dec (fun g2 => ?_) (fun g2 => ?_) <;> ((conv => whnf); (repeat first | (refine wrB (by omega) ?_; conv => whnf) | (refine okB (by kernel_rfl) ?_; conv => whnf) | (refine cb (by first | rfl | omega | (simp; done) | (simp; omega)) ?_; conv => whnf) | (refine idxB_at (by decide) rfl ?_; conv => whnf) | (refine atB_at (by decide) (by decide) ?_; conv => whnf) | (refine getB_lit _ rfl ?_; conv => whnf) | (refine cnd tab_ok mix ?_; conv => whnf) | trivial))
      · exact .same rfl
      · refine callB (compareItems x z) ?_
        ((conv => whnf); (repeat first | (refine wrB (by omega) ?_; conv => whnf) | (refine okB (by kernel_rfl) ?_; conv => whnf) | (refine cb (by first | rfl | omega | (simp; done) | (simp; omega)) ?_; conv => whnf) | (refine idxB_at (by decide) rfl ?_; conv => whnf) | (refine atB_at (by decide) (by decide) ?_; conv => whnf) | (refine getB_lit _ rfl ?_; conv => whnf) | (refine cnd tab_ok mix ?_; conv => whnf) | trivial))
        exact .same (by rw [r5 g1 g2]; simp; omega)
end Go.Proofs.Ytepepidjefpckaa.Abs
