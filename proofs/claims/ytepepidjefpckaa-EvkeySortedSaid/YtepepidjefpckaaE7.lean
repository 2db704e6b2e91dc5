/- The law of package evkey on events, as a contract. -/
import Derived.Test.YtepepidjefpckaaE5
import Derived.Test.YtepepidjefpckaaE4
namespace Go.Proofs.Ytepepidjefpckaa.Abs
open Go.Proofs
set_option maxRecDepth 10000
set_option linter.unusedSimpArgs false
set_option linter.unusedVariables false

theorem or2_cases (a b : Int) : (a = 0 ∧ or2 a b = b) ∨ (a ≠ 0 ∧ or2 a b = a) := by
  unfold or2; split
  · left; exact ⟨by assumption, rfl⟩
  · right; exact ⟨by assumption, rfl⟩
theorem cmpI_range (a b : Int) : -1 ≤ cmpI a b ∧ cmpI a b ≤ 1 := by
  rcases cmpI_cases a b with h | h | h <;> omega
theorem cmpEv_range (x y : Ev) : -1 ≤ cmpEv x y ∧ cmpEv x y ≤ 1 := by
  have h1 := cmpI_range x.time y.time
  have h2 := cmpK_range x.key y.key
  unfold cmpEv
  rcases or2_cases (cmpI x.time y.time) (cmpK x.key y.key) with h | h <;> omega
theorem cmpEv_anti (x y : Ev) : cmpEv x y = - cmpEv y x := by
  have h2 := cmpK_anti x.key y.key
  have t1 := cmpI_cases x.time y.time
  have t2 := cmpI_cases y.time x.time
  unfold cmpEv
  rcases or2_cases (cmpI x.time y.time) (cmpK x.key y.key) with h | h <;> rcases or2_cases (cmpI y.time x.time) (cmpK y.key x.key) with g | g <;> omega
theorem cmpEv_zero (x y : Ev) : cmpEv x y = 0 ↔ (x.time = y.time ∧ cmpK x.key y.key = 0) := by
  have t1 := cmpI_cases x.time y.time
  unfold cmpEv
  rcases or2_cases (cmpI x.time y.time) (cmpK x.key y.key) with h | h <;> constructor <;> intro g <;> first | (constructor <;> omega) | omega
theorem cmpEv_trans (x y z : Ev) (h1 : ¬ 0 < cmpEv x y) (h2 : ¬ 0 < cmpEv y z) : cmpEv x z = min (cmpEv x y) (cmpEv y z) := by
  have t1 := cmpI_cases x.time y.time
  have t2 := cmpI_cases y.time z.time
  have t3 := cmpI_cases x.time z.time
  have k := cmpK_trans x.key y.key z.key
  have k1 := cmpK_range x.key y.key
  have k2 := cmpK_range y.key z.key
  unfold cmpEv at *
  rcases or2_cases (cmpI x.time y.time) (cmpK x.key y.key) with a | a <;> rcases or2_cases (cmpI y.time z.time) (cmpK y.key z.key) with b | b <;> rcases or2_cases (cmpI x.time z.time) (cmpK x.key z.key) with c | c <;> rw [a.2] at h1 ⊢ <;> rw [b.2] at h2 ⊢ <;> rw [c.2] <;> first | omega | (have := k (by omega) (by omega); omega)

/-- more events, or longer keys, than the laws cover -/
def great (R : List Ev) : Bool := decide (100 < R.length) || R.any fun x => decide (50 < x.key.length)
def evsV2 (R : List Ev) : V := .lst 6 (R.map Ev.row) false
theorem greatC (R : List Ev) : PSpec Try.prog 31 [evsV R] (V.bool (great R)) := by
  refine pspec tab_ok mix Try.func31 (by kernel_rfl) rfl rfl ?_
  ((conv => whnf); (repeat first | (refine wrB (by omega) ?_; conv => whnf) | (refine okB (by kernel_rfl) ?_; conv => whnf) | (refine cb (by first | rfl | omega | (simp; done) | (simp; omega)) ?_; conv => whnf) | (refine idxB_at (by decide) rfl ?_; conv => whnf) | (refine atB_at (by decide) (by decide) ?_; conv => whnf) | (refine getB_lit _ rfl ?_; conv => whnf) | (refine cnd tab_ok mix ?_; conv => whnf) | trivial))
  refine br_dec (fun h => ?_) (fun h => ?_) <;> ((conv => whnf); (repeat first | (refine wrB (by omega) ?_; conv => whnf) | (refine okB (by kernel_rfl) ?_; conv => whnf) | (refine cb (by first | rfl | omega | (simp; done) | (simp; omega)) ?_; conv => whnf) | (refine idxB_at (by decide) rfl ?_; conv => whnf) | (refine atB_at (by decide) (by decide) ?_; conv => whnf) | (refine getB_lit _ rfl ?_; conv => whnf) | (refine cnd tab_ok mix ?_; conv => whnf) | trivial))
  · simp at h
    exact .same (by simp [great]; omega)
  · simp at h
    refine loopB tab_ok mix [0, 2] [] (fun i : Nat => [(3, V.int i)]) (fun i => []) (fun i => i ≤ R.length ∧ R.any (fun x => decide (50 < x.key.length)) = (R.drop i).any fun x => decide (50 < x.key.length)) (fun i => R.length - i) [] 0 rfl ⟨by omega, rfl⟩ (by ((conv => whnf); (repeat first | (refine wrB (by omega) ?_; conv => whnf) | (refine okB (by kernel_rfl) ?_; conv => whnf) | (refine cb (by first | rfl | omega | (simp; done) | (simp; omega)) ?_; conv => whnf) | (refine idxB_at (by decide) rfl ?_; conv => whnf) | (refine atB_at (by decide) (by decide) ?_; conv => whnf) | (refine getB_lit _ rfl ?_; conv => whnf) | (refine cnd tab_ok mix ?_; conv => whnf) | trivial))) ?_
    rintro i ⟨h1, h2⟩
    ((conv => whnf); (repeat first | (refine wrB (by omega) ?_; conv => whnf) | (refine okB (by kernel_rfl) ?_; conv => whnf) | (refine cb (by first | rfl | omega | (simp; done) | (simp; omega)) ?_; conv => whnf) | (refine idxB_at (by decide) rfl ?_; conv => whnf) | (refine atB_at (by decide) (by decide) ?_; conv => whnf) | (refine getB_lit _ rfl ?_; conv => whnf) | (refine cnd tab_ok mix ?_; conv => whnf) | trivial))
    refine br_dec (fun g => ?_) (fun g => ?_) <;> ((conv => whnf); (repeat first | (refine wrB (by omega) ?_; conv => whnf) | (refine okB (by kernel_rfl) ?_; conv => whnf) | (refine cb (by first | rfl | omega | (simp; done) | (simp; omega)) ?_; conv => whnf) | (refine idxB_at (by decide) rfl ?_; conv => whnf) | (refine atB_at (by decide) (by decide) ?_; conv => whnf) | (refine getB_lit _ rfl ?_; conv => whnf) | (refine cnd tab_ok mix ?_; conv => whnf) | trivial))
    · simp at g
      obtain ⟨x, hx⟩ := get_lt g
      rw [drop_get hx, List.any_cons] at h2
      refine idxB hx ?_
      ((conv => whnf); (repeat first | (refine wrB (by omega) ?_; conv => whnf) | (refine okB (by kernel_rfl) ?_; conv => whnf) | (refine cb (by first | rfl | omega | (simp; done) | (simp; omega)) ?_; conv => whnf) | (refine idxB_at (by decide) rfl ?_; conv => whnf) | (refine atB_at (by decide) (by decide) ?_; conv => whnf) | (refine getB_lit _ rfl ?_; conv => whnf) | (refine cnd tab_ok mix ?_; conv => whnf) | trivial))
      refine br_dec (fun k => ?_) (fun k => ?_) <;> ((conv => whnf); (repeat first | (refine wrB (by omega) ?_; conv => whnf) | (refine okB (by kernel_rfl) ?_; conv => whnf) | (refine cb (by first | rfl | omega | (simp; done) | (simp; omega)) ?_; conv => whnf) | (refine idxB_at (by decide) rfl ?_; conv => whnf) | (refine atB_at (by decide) (by decide) ?_; conv => whnf) | (refine getB_lit _ rfl ?_; conv => whnf) | (refine cnd tab_ok mix ?_; conv => whnf) | trivial))
      · simp at k
        refine .same ?_
        rw [great, h2]
        simp [show 50 < x.key.length by omega]
      · simp at k
        refine .mk [] (i + 1) ⟨by omega, ?_⟩ (by omega) ?_
        · rw [h2]
          simp [show ¬ 50 < x.key.length by omega]
        · ((conv => whnf); (repeat first | (refine wrB (by omega) ?_; conv => whnf) | (refine okB (by kernel_rfl) ?_; conv => whnf) | (refine cb (by first | rfl | omega | (simp; done) | (simp; omega)) ?_; conv => whnf) | (refine idxB_at (by decide) rfl ?_; conv => whnf) | (refine atB_at (by decide) (by decide) ?_; conv => whnf) | (refine getB_lit _ rfl ?_; conv => whnf) | (refine cnd tab_ok mix ?_; conv => whnf) | trivial))
    · simp at g
      refine .same ?_
      rw [great, h2, List.drop_eq_nil_of_le (by omega)]
      simp; omega
theorem evkeyEvents (x y z : Ev) : PSpec Try.prog 13 [x.v, y.v, z.v] (V.bool true) := by
  have r1 := cmpEv_range x y
  have r2 := cmpEv_range y x
  have r3 := cmpEv_anti x y
  have r4 := cmpEv_zero x y
  have r5 := cmpEv_trans x y z
  refine pspec tab_ok mix Try.func13 (by kernel_rfl) rfl rfl ?_
  ((conv => whnf); (repeat first | (refine wrB (by omega) ?_; conv => whnf) | (refine okB (by kernel_rfl) ?_; conv => whnf) | (refine cb (by first | rfl | omega | (simp; done) | (simp; omega)) ?_; conv => whnf) | (refine idxB_at (by decide) rfl ?_; conv => whnf) | (refine atB_at (by decide) (by decide) ?_; conv => whnf) | (refine getB_lit _ rfl ?_; conv => whnf) | (refine cnd tab_ok mix ?_; conv => whnf) | trivial))
  refine callB headC ?_
  ((conv => whnf); (repeat first | (refine wrB (by omega) ?_; conv => whnf) | (refine okB (by kernel_rfl) ?_; conv => whnf) | (refine cb (by first | rfl | omega | (simp; done) | (simp; omega)) ?_; conv => whnf) | (refine idxB_at (by decide) rfl ?_; conv => whnf) | (refine atB_at (by decide) (by decide) ?_; conv => whnf) | (refine getB_lit _ rfl ?_; conv => whnf) | (refine cnd tab_ok mix ?_; conv => whnf) | trivial))
  refine callC (greatC [x, y, z]) ?_
  ((conv => whnf); (repeat first | (refine wrB (by omega) ?_; conv => whnf) | (refine okB (by kernel_rfl) ?_; conv => whnf) | (refine cb (by first | rfl | omega | (simp; done) | (simp; omega)) ?_; conv => whnf) | (refine idxB_at (by decide) rfl ?_; conv => whnf) | (refine atB_at (by decide) (by decide) ?_; conv => whnf) | (refine getB_lit _ rfl ?_; conv => whnf) | (refine cnd tab_ok mix ?_; conv => whnf) | trivial))
  refine brK_mk (fun h => ?_) (fun h => ?_) <;> ((conv => whnf); (repeat first | (refine wrB (by omega) ?_; conv => whnf) | (refine okB (by kernel_rfl) ?_; conv => whnf) | (refine cb (by first | rfl | omega | (simp; done) | (simp; omega)) ?_; conv => whnf) | (refine idxB_at (by decide) rfl ?_; conv => whnf) | (refine atB_at (by decide) (by decide) ?_; conv => whnf) | (refine getB_lit _ rfl ?_; conv => whnf) | (refine cnd tab_ok mix ?_; conv => whnf) | trivial))
  · exact .same rfl
  have hx : x.key.length ≤ 50 ∧ y.key.length ≤ 50 := by
    simp [great] at h
    omega
  refine callB (compareEvents x y (by omega)) ?_
  ((conv => whnf); (repeat first | (refine wrB (by omega) ?_; conv => whnf) | (refine okB (by kernel_rfl) ?_; conv => whnf) | (refine cb (by first | rfl | omega | (simp; done) | (simp; omega)) ?_; conv => whnf) | (refine idxB_at (by decide) rfl ?_; conv => whnf) | (refine atB_at (by decide) (by decide) ?_; conv => whnf) | (refine getB_lit _ rfl ?_; conv => whnf) | (refine cnd tab_ok mix ?_; conv => whnf) | trivial))
  refine callB (compareEvents y z (by omega)) ?_
  ((conv => whnf); (repeat first | (refine wrB (by omega) ?_; conv => whnf) | (refine okB (by kernel_rfl) ?_; conv => whnf) | (refine cb (by first | rfl | omega | (simp; done) | (simp; omega)) ?_; conv => whnf) | (refine idxB_at (by decide) rfl ?_; conv => whnf) | (refine atB_at (by decide) (by decide) ?_; conv => whnf) | (refine getB_lit _ rfl ?_; conv => whnf) | (refine cnd tab_ok mix ?_; conv => whnf) | trivial))
  refine callB (compareEvents y x (by omega)) ?_
  ((conv => whnf); (repeat first | (refine wrB (by omega) ?_; conv => whnf) | (refine okB (by kernel_rfl) ?_; conv => whnf) | (refine cb (by first | rfl | omega | (simp; done) | (simp; omega)) ?_; conv => whnf) | (refine idxB_at (by decide) rfl ?_; conv => whnf) | (refine atB_at (by decide) (by decide) ?_; conv => whnf) | (refine getB_lit _ rfl ?_; conv => whnf) | (refine cnd tab_ok mix ?_; conv => whnf) | trivial))
  refine br_ndec (fun h => absurd (by omega) h) (fun h => ?_)
  ((conv => whnf); (repeat first | (refine wrB (by omega) ?_; conv => whnf) | (refine okB (by kernel_rfl) ?_; conv => whnf) | (refine cb (by first | rfl | omega | (simp; done) | (simp; omega)) ?_; conv => whnf) | (refine idxB_at (by decide) rfl ?_; conv => whnf) | (refine atB_at (by decide) (by decide) ?_; conv => whnf) | (refine getB_lit _ rfl ?_; conv => whnf) | (refine cnd tab_ok mix ?_; conv => whnf) | trivial))
  refine br_dec (fun g => ?_) (fun g => ?_)
  · ((conv => whnf); (repeat first | (refine wrB (by omega) ?_; conv => whnf) | (refine okB (by kernel_rfl) ?_; conv => whnf) | (refine cb (by first | rfl | omega | (simp; done) | (simp; omega)) ?_; conv => whnf) | (refine idxB_at (by decide) rfl ?_; conv => whnf) | (refine atB_at (by decide) (by decide) ?_; conv => whnf) | (refine getB_lit _ rfl ?_; conv => whnf) | (refine cnd tab_ok mix ?_; conv => whnf) | trivial))
    refine callB (compareKeys x.key y.key (by omega)) ?_
    ((conv => whnf); (repeat first | (refine wrB (by omega) ?_; conv => whnf) | (refine okB (by kernel_rfl) ?_; conv => whnf) | (refine cb (by first | rfl | omega | (simp; done) | (simp; omega)) ?_; conv => whnf) | (refine idxB_at (by decide) rfl ?_; conv => whnf) | (refine atB_at (by decide) (by decide) ?_; conv => whnf) | (refine getB_lit _ rfl ?_; conv => whnf) | (refine cnd tab_ok mix ?_; conv => whnf) | trivial))
    refine br_no (bne_iff (by rw [r4]; simp [g])) ?_
    ((conv => whnf); (repeat first | (refine wrB (by omega) ?_; conv => whnf) | (refine okB (by kernel_rfl) ?_; conv => whnf) | (refine cb (by first | rfl | omega | (simp; done) | (simp; omega)) ?_; conv => whnf) | (refine idxB_at (by decide) rfl ?_; conv => whnf) | (refine atB_at (by decide) (by decide) ?_; conv => whnf) | (refine getB_lit _ rfl ?_; conv => whnf) | (refine cnd tab_ok mix ?_; conv => whnf) | trivial))
    refine br_dec (fun g1 => ?_) (fun g1 => ?_) <;> ((conv => whnf); (repeat first | (refine wrB (by omega) ?_; conv => whnf) | (refine okB (by kernel_rfl) ?_; conv => whnf) | (refine cb (by first | rfl | omega | (simp; done) | (simp; omega)) ?_; conv => whnf) | (refine idxB_at (by decide) rfl ?_; conv => whnf) | (refine atB_at (by decide) (by decide) ?_; conv => whnf) | (refine getB_lit _ rfl ?_; conv => whnf) | (refine cnd tab_ok mix ?_; conv => whnf) | trivial))
    · exact .same rfl
    · refine br_dec (fun g2 => ?_) (fun g2 => ?_) <;> ((conv => whnf); (repeat first | (refine wrB (by omega) ?_; conv => whnf) | (refine okB (by kernel_rfl) ?_; conv => whnf) | (refine cb (by first | rfl | omega | (simp; done) | (simp; omega)) ?_; conv => whnf) | (refine idxB_at (by decide) rfl ?_; conv => whnf) | (refine atB_at (by decide) (by decide) ?_; conv => whnf) | (refine getB_lit _ rfl ?_; conv => whnf) | (refine cnd tab_ok mix ?_; conv => whnf) | trivial))
      · exact .same rfl
      · refine callB (compareEvents x z (by omega)) ?_
        ((conv => whnf); (repeat first | (refine wrB (by omega) ?_; conv => whnf) | (refine okB (by kernel_rfl) ?_; conv => whnf) | (refine cb (by first | rfl | omega | (simp; done) | (simp; omega)) ?_; conv => whnf) | (refine idxB_at (by decide) rfl ?_; conv => whnf) | (refine atB_at (by decide) (by decide) ?_; conv => whnf) | (refine getB_lit _ rfl ?_; conv => whnf) | (refine cnd tab_ok mix ?_; conv => whnf) | trivial))
        exact .same (by rw [r5 g1 g2]; simp; omega)
  · ((conv => whnf); (repeat first | (refine wrB (by omega) ?_; conv => whnf) | (refine okB (by kernel_rfl) ?_; conv => whnf) | (refine cb (by first | rfl | omega | (simp; done) | (simp; omega)) ?_; conv => whnf) | (refine idxB_at (by decide) rfl ?_; conv => whnf) | (refine atB_at (by decide) (by decide) ?_; conv => whnf) | (refine getB_lit _ rfl ?_; conv => whnf) | (refine cnd tab_ok mix ?_; conv => whnf) | trivial))
    refine br_no (bne_iff (by rw [r4]; simp [g])) ?_
    ((conv => whnf); (repeat first | (refine wrB (by omega) ?_; conv => whnf) | (refine okB (by kernel_rfl) ?_; conv => whnf) | (refine cb (by first | rfl | omega | (simp; done) | (simp; omega)) ?_; conv => whnf) | (refine idxB_at (by decide) rfl ?_; conv => whnf) | (refine atB_at (by decide) (by decide) ?_; conv => whnf) | (refine getB_lit _ rfl ?_; conv => whnf) | (refine cnd tab_ok mix ?_; conv => whnf) | trivial))
    refine br_dec (fun g1 => ?_) (fun g1 => ?_) <;> ((conv => whnf); (repeat first | (refine wrB (by omega) ?_; conv => whnf) | (refine okB (by kernel_rfl) ?_; conv => whnf) | (refine cb (by first | rfl | omega | (simp; done) | (simp; omega)) ?_; conv => whnf) | (refine idxB_at (by decide) rfl ?_; conv => whnf) | (refine atB_at (by decide) (by decide) ?_; conv => whnf) | (refine getB_lit _ rfl ?_; conv => whnf) | (refine cnd tab_ok mix ?_; conv => whnf) | trivial))
    · exact .same rfl
    · refine br_dec (fun g2 => ?_) (fun g2 => ?_) <;> ((conv => whnf); (repeat first | (refine wrB (by omega) ?_; conv => whnf) | (refine okB (by kernel_rfl) ?_; conv => whnf) | (refine cb (by first | rfl | omega | (simp; done) | (simp; omega)) ?_; conv => whnf) | (refine idxB_at (by decide) rfl ?_; conv => whnf) | (refine atB_at (by decide) (by decide) ?_; conv => whnf) | (refine getB_lit _ rfl ?_; conv => whnf) | (refine cnd tab_ok mix ?_; conv => whnf) | trivial))
      · exact .same rfl
      · refine callB (compareEvents x z (by omega)) ?_
        ((conv => whnf); (repeat first | (refine wrB (by omega) ?_; conv => whnf) | (refine okB (by kernel_rfl) ?_; conv => whnf) | (refine cb (by first | rfl | omega | (simp; done) | (simp; omega)) ?_; conv => whnf) | (refine idxB_at (by decide) rfl ?_; conv => whnf) | (refine atB_at (by decide) (by decide) ?_; conv => whnf) | (refine getB_lit _ rfl ?_; conv => whnf) | (refine cnd tab_ok mix ?_; conv => whnf) | trivial))
        exact .same (by rw [r5 g1 g2]; simp; omega)
theorem specEvents (rows : List (List D)) (h : AllR (ShapeD tab 5) [38, 38, 38] rows) : PSpec Try.prog 13 (List.zipWith (argV tab) [38, 38, 38] rows) (V.bool true) := by
  obtain ⟨_, _, rfl, h1, h⟩ := h.cons
  obtain ⟨_, _, rfl, h2, h⟩ := h.cons
  obtain ⟨_, _, rfl, h3, h⟩ := h.cons
  cases h.nil
  obtain ⟨x, rfl, hx⟩ := evOf h1
  obtain ⟨y, rfl, hy⟩ := evOf h2
  obtain ⟨z, rfl, hz⟩ := evOf h3
  exact evkeyEvents x y z
end Go.Proofs.Ytepepidjefpckaa.Abs
