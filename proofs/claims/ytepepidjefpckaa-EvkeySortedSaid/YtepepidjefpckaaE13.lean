/- The references of package evkey, and comparing for sameness. -/
import Derived.Test.YtepepidjefpckaaE12
namespace Go.Proofs.Ytepepidjefpckaa.Abs
open Go.Proofs
set_option maxRecDepth 10000
set_option linter.unusedSimpArgs false
set_option linter.unusedVariables false

theorem refCompareItems (x y : Item) : PSpec Try.prog 35 [x.v, y.v] (V.int (cmpItem x y)) := by
  refine pspec tab_ok mix Try.func35 (by kernel_rfl) rfl rfl ?_
  ((conv => whnf); (repeat first | (refine wrB (by omega) ?_; conv => whnf) | (refine okB (by kernel_rfl) ?_; conv => whnf) | (refine cb (by first | rfl | omega | (simp; done) | (simp; omega)) ?_; conv => whnf) | (refine idxB_at (by decide) rfl ?_; conv => whnf) | (refine atB_at (by decide) (by decide) ?_; conv => whnf) | (refine getB_lit _ rfl ?_; conv => whnf) | (refine cnd tab_ok mix ?_; conv => whnf) | trivial))
  refine br_ndec (fun e => ?_) (fun e => ?_) <;> ((conv => whnf); (repeat first | (refine wrB (by omega) ?_; conv => whnf) | (refine okB (by kernel_rfl) ?_; conv => whnf) | (refine cb (by first | rfl | omega | (simp; done) | (simp; omega)) ?_; conv => whnf) | (refine idxB_at (by decide) rfl ?_; conv => whnf) | (refine atB_at (by decide) (by decide) ?_; conv => whnf) | (refine getB_lit _ rfl ?_; conv => whnf) | (refine cnd tab_ok mix ?_; conv => whnf) | trivial))
  · refine callB (refCompare _ _) ?_
    ((conv => whnf); (repeat first | (refine wrB (by omega) ?_; conv => whnf) | (refine okB (by kernel_rfl) ?_; conv => whnf) | (refine cb (by first | rfl | omega | (simp; done) | (simp; omega)) ?_; conv => whnf) | (refine idxB_at (by decide) rfl ?_; conv => whnf) | (refine atB_at (by decide) (by decide) ?_; conv => whnf) | (refine getB_lit _ rfl ?_; conv => whnf) | (refine cnd tab_ok mix ?_; conv => whnf) | trivial))
    exact .same (by simp [cmpItem, or2, cmpI_zero, e])
  · refine callB (refCompare _ _) ?_
    ((conv => whnf); (repeat first | (refine wrB (by omega) ?_; conv => whnf) | (refine okB (by kernel_rfl) ?_; conv => whnf) | (refine cb (by first | rfl | omega | (simp; done) | (simp; omega)) ?_; conv => whnf) | (refine idxB_at (by decide) rfl ?_; conv => whnf) | (refine atB_at (by decide) (by decide) ?_; conv => whnf) | (refine getB_lit _ rfl ?_; conv => whnf) | (refine cnd tab_ok mix ?_; conv => whnf) | trivial))
    exact .same (by simp [cmpItem, or2, cmpI_zero, e])
theorem refCompareEvents (x y : Ev) (hx : x.key.length < 9223372036854775807) : PSpec Try.prog 33 [x.v, y.v] (V.int (cmpEv x y)) := by
  refine pspec tab_ok mix Try.func33 (by kernel_rfl) rfl rfl ?_
  ((conv => whnf); (repeat first | (refine wrB (by omega) ?_; conv => whnf) | (refine okB (by kernel_rfl) ?_; conv => whnf) | (refine cb (by first | rfl | omega | (simp; done) | (simp; omega)) ?_; conv => whnf) | (refine idxB_at (by decide) rfl ?_; conv => whnf) | (refine atB_at (by decide) (by decide) ?_; conv => whnf) | (refine getB_lit _ rfl ?_; conv => whnf) | (refine cnd tab_ok mix ?_; conv => whnf) | trivial))
  refine br_ndec (fun e => ?_) (fun e => ?_) <;> ((conv => whnf); (repeat first | (refine wrB (by omega) ?_; conv => whnf) | (refine okB (by kernel_rfl) ?_; conv => whnf) | (refine cb (by first | rfl | omega | (simp; done) | (simp; omega)) ?_; conv => whnf) | (refine idxB_at (by decide) rfl ?_; conv => whnf) | (refine atB_at (by decide) (by decide) ?_; conv => whnf) | (refine getB_lit _ rfl ?_; conv => whnf) | (refine cnd tab_ok mix ?_; conv => whnf) | trivial))
  · refine callB (refCompare _ _) ?_
    ((conv => whnf); (repeat first | (refine wrB (by omega) ?_; conv => whnf) | (refine okB (by kernel_rfl) ?_; conv => whnf) | (refine cb (by first | rfl | omega | (simp; done) | (simp; omega)) ?_; conv => whnf) | (refine idxB_at (by decide) rfl ?_; conv => whnf) | (refine atB_at (by decide) (by decide) ?_; conv => whnf) | (refine getB_lit _ rfl ?_; conv => whnf) | (refine cnd tab_ok mix ?_; conv => whnf) | trivial))
    exact .same (by simp [cmpEv, or2, cmpI_zero, e])
  · refine callB (refCompareKeys x.key y.key hx) ?_
    ((conv => whnf); (repeat first | (refine wrB (by omega) ?_; conv => whnf) | (refine okB (by kernel_rfl) ?_; conv => whnf) | (refine cb (by first | rfl | omega | (simp; done) | (simp; omega)) ?_; conv => whnf) | (refine idxB_at (by decide) rfl ?_; conv => whnf) | (refine atB_at (by decide) (by decide) ?_; conv => whnf) | (refine getB_lit _ rfl ?_; conv => whnf) | (refine cnd tab_ok mix ?_; conv => whnf) | trivial))
    exact .same (by simp [cmpEv, or2, cmpI_zero, e])
theorem refChild (a : List Int) (i : Int) (hl : a.length < 2147483647) : PSpecN Try.prog 40 [keyV a, V.int i] (keyV (a ++ [i])) := by
  refine pspecN tab_ok mix Try.func40 (by kernel_rfl) rfl rfl ?_
  ((conv => whnf); (repeat first | (refine wrB (by omega) ?_; conv => whnf) | (refine okB (by kernel_rfl) ?_; conv => whnf) | (refine cb (by first | rfl | omega | (simp; done) | (simp; omega)) ?_; conv => whnf) | (refine idxB_at (by decide) rfl ?_; conv => whnf) | (refine atB_at (by decide) (by decide) ?_; conv => whnf) | (refine getB_lit _ rfl ?_; conv => whnf) | (refine cnd tab_ok mix ?_; conv => whnf) | trivial))
  refine .frz (.ac _ _ _ ((a ++ [i]).map intD) ?_ (by simp) ?_)
  · rw [List.map_append]; rfl
  · intro row hr
    obtain ⟨x, _, rfl⟩ := List.mem_map.1 hr
    rfl
theorem sameEvent (x : Ev) (hx : x.key.length < 9223372036854775807) : PSpec Try.prog 45 [x.v, x.v] (V.bool true) := by
  refine pspec tab_ok mix Try.func45 (by kernel_rfl) rfl rfl ?_
  ((conv => whnf); (repeat first | (refine wrB (by omega) ?_; conv => whnf) | (refine okB (by kernel_rfl) ?_; conv => whnf) | (refine cb (by first | rfl | omega | (simp; done) | (simp; omega)) ?_; conv => whnf) | (refine idxB_at (by decide) rfl ?_; conv => whnf) | (refine atB_at (by decide) (by decide) ?_; conv => whnf) | (refine getB_lit _ rfl ?_; conv => whnf) | (refine cnd tab_ok mix ?_; conv => whnf) | trivial))
  refine br_dec (fun _ => ?_) (fun h => absurd rfl h)
  ((conv => whnf); (repeat first | (refine wrB (by omega) ?_; conv => whnf) | (refine okB (by kernel_rfl) ?_; conv => whnf) | (refine cb (by first | rfl | omega | (simp; done) | (simp; omega)) ?_; conv => whnf) | (refine idxB_at (by decide) rfl ?_; conv => whnf) | (refine atB_at (by decide) (by decide) ?_; conv => whnf) | (refine getB_lit _ rfl ?_; conv => whnf) | (refine cnd tab_ok mix ?_; conv => whnf) | trivial))
  refine callB (sameKey x.key x.key hx) ?_
  ((conv => whnf); (repeat first | (refine wrB (by omega) ?_; conv => whnf) | (refine okB (by kernel_rfl) ?_; conv => whnf) | (refine cb (by first | rfl | omega | (simp; done) | (simp; omega)) ?_; conv => whnf) | (refine idxB_at (by decide) rfl ?_; conv => whnf) | (refine atB_at (by decide) (by decide) ?_; conv => whnf) | (refine getB_lit _ rfl ?_; conv => whnf) | (refine cnd tab_ok mix ?_; conv => whnf) | trivial))
  refine br_dec (fun _ => ?_) (fun h => absurd ((cmpK_zero _ _).2 rfl) h)
  ((conv => whnf); (repeat first | (refine wrB (by omega) ?_; conv => whnf) | (refine okB (by kernel_rfl) ?_; conv => whnf) | (refine cb (by first | rfl | omega | (simp; done) | (simp; omega)) ?_; conv => whnf) | (refine idxB_at (by decide) rfl ?_; conv => whnf) | (refine atB_at (by decide) (by decide) ?_; conv => whnf) | (refine getB_lit _ rfl ?_; conv => whnf) | (refine cnd tab_ok mix ?_; conv => whnf) | trivial))
  refine br_dec (fun _ => ?_) (fun h => absurd rfl h)
  ((conv => whnf); (repeat first | (refine wrB (by omega) ?_; conv => whnf) | (refine okB (by kernel_rfl) ?_; conv => whnf) | (refine cb (by first | rfl | omega | (simp; done) | (simp; omega)) ?_; conv => whnf) | (refine idxB_at (by decide) rfl ?_; conv => whnf) | (refine atB_at (by decide) (by decide) ?_; conv => whnf) | (refine getB_lit _ rfl ?_; conv => whnf) | (refine cnd tab_ok mix ?_; conv => whnf) | trivial))
  refine br_dec (fun _ => ?_) (fun h => absurd rfl h)
  ((conv => whnf); (repeat first | (refine wrB (by omega) ?_; conv => whnf) | (refine okB (by kernel_rfl) ?_; conv => whnf) | (refine cb (by first | rfl | omega | (simp; done) | (simp; omega)) ?_; conv => whnf) | (refine idxB_at (by decide) rfl ?_; conv => whnf) | (refine atB_at (by decide) (by decide) ?_; conv => whnf) | (refine getB_lit _ rfl ?_; conv => whnf) | (refine cnd tab_ok mix ?_; conv => whnf) | trivial))
  refine br_dec (fun _ => ?_) (fun h => absurd rfl h)
  ((conv => whnf); (repeat first | (refine wrB (by omega) ?_; conv => whnf) | (refine okB (by kernel_rfl) ?_; conv => whnf) | (refine cb (by first | rfl | omega | (simp; done) | (simp; omega)) ?_; conv => whnf) | (refine idxB_at (by decide) rfl ?_; conv => whnf) | (refine atB_at (by decide) (by decide) ?_; conv => whnf) | (refine getB_lit _ rfl ?_; conv => whnf) | (refine cnd tab_ok mix ?_; conv => whnf) | trivial))
  exact .same (by simp)
theorem sameEvents (R : List Ev) (hl : R.length < 9223372036854775807) (hk : keysOk R) : PSpec Try.prog 41 [evsV R, evsV R] (V.bool true) := by
  refine pspec tab_ok mix Try.func41 (by kernel_rfl) rfl rfl ?_
  ((conv => whnf); (repeat first | (refine wrB (by omega) ?_; conv => whnf) | (refine okB (by kernel_rfl) ?_; conv => whnf) | (refine cb (by first | rfl | omega | (simp; done) | (simp; omega)) ?_; conv => whnf) | (refine idxB_at (by decide) rfl ?_; conv => whnf) | (refine atB_at (by decide) (by decide) ?_; conv => whnf) | (refine getB_lit _ rfl ?_; conv => whnf) | (refine cnd tab_ok mix ?_; conv => whnf) | trivial))
  refine br_ndec (fun h => absurd rfl h) (fun _ => ?_)
  ((conv => whnf); (repeat first | (refine wrB (by omega) ?_; conv => whnf) | (refine okB (by kernel_rfl) ?_; conv => whnf) | (refine cb (by first | rfl | omega | (simp; done) | (simp; omega)) ?_; conv => whnf) | (refine idxB_at (by decide) rfl ?_; conv => whnf) | (refine atB_at (by decide) (by decide) ?_; conv => whnf) | (refine getB_lit _ rfl ?_; conv => whnf) | (refine cnd tab_ok mix ?_; conv => whnf) | trivial))
  refine loopB tab_ok mix [0, 1] [] (fun i : Nat => [(5, V.int i)]) (fun i => []) (fun i => i ≤ R.length) (fun i => R.length - i) [] 0 rfl (by omega) (by ((conv => whnf); (repeat first | (refine wrB (by omega) ?_; conv => whnf) | (refine okB (by kernel_rfl) ?_; conv => whnf) | (refine cb (by first | rfl | omega | (simp; done) | (simp; omega)) ?_; conv => whnf) | (refine idxB_at (by decide) rfl ?_; conv => whnf) | (refine atB_at (by decide) (by decide) ?_; conv => whnf) | (refine getB_lit _ rfl ?_; conv => whnf) | (refine cnd tab_ok mix ?_; conv => whnf) | trivial))) ?_
  rintro i h1
  ((conv => whnf); (repeat first | (refine wrB (by omega) ?_; conv => whnf) | (refine okB (by kernel_rfl) ?_; conv => whnf) | (refine cb (by first | rfl | omega | (simp; done) | (simp; omega)) ?_; conv => whnf) | (refine idxB_at (by decide) rfl ?_; conv => whnf) | (refine atB_at (by decide) (by decide) ?_; conv => whnf) | (refine getB_lit _ rfl ?_; conv => whnf) | (refine cnd tab_ok mix ?_; conv => whnf) | trivial))
  refine br_dec (fun g => ?_) (fun g => ?_) <;> ((conv => whnf); (repeat first | (refine wrB (by omega) ?_; conv => whnf) | (refine okB (by kernel_rfl) ?_; conv => whnf) | (refine cb (by first | rfl | omega | (simp; done) | (simp; omega)) ?_; conv => whnf) | (refine idxB_at (by decide) rfl ?_; conv => whnf) | (refine atB_at (by decide) (by decide) ?_; conv => whnf) | (refine getB_lit _ rfl ?_; conv => whnf) | (refine cnd tab_ok mix ?_; conv => whnf) | trivial))
  · simp at g
    obtain ⟨x, hx⟩ := get_lt g
    refine idxB hx ?_
    ((conv => whnf); (repeat first | (refine wrB (by omega) ?_; conv => whnf) | (refine okB (by kernel_rfl) ?_; conv => whnf) | (refine cb (by first | rfl | omega | (simp; done) | (simp; omega)) ?_; conv => whnf) | (refine idxB_at (by decide) rfl ?_; conv => whnf) | (refine atB_at (by decide) (by decide) ?_; conv => whnf) | (refine getB_lit _ rfl ?_; conv => whnf) | (refine cnd tab_ok mix ?_; conv => whnf) | trivial))
    refine idxB hx ?_
    ((conv => whnf); (repeat first | (refine wrB (by omega) ?_; conv => whnf) | (refine okB (by kernel_rfl) ?_; conv => whnf) | (refine cb (by first | rfl | omega | (simp; done) | (simp; omega)) ?_; conv => whnf) | (refine idxB_at (by decide) rfl ?_; conv => whnf) | (refine atB_at (by decide) (by decide) ?_; conv => whnf) | (refine getB_lit _ rfl ?_; conv => whnf) | (refine cnd tab_ok mix ?_; conv => whnf) | trivial))
    refine dcallB (sameEvent x (hk x (List.mem_of_getElem? hx))) ?_
    ((conv => whnf); (repeat first | (refine wrB (by omega) ?_; conv => whnf) | (refine okB (by kernel_rfl) ?_; conv => whnf) | (refine cb (by first | rfl | omega | (simp; done) | (simp; omega)) ?_; conv => whnf) | (refine idxB_at (by decide) rfl ?_; conv => whnf) | (refine atB_at (by decide) (by decide) ?_; conv => whnf) | (refine getB_lit _ rfl ?_; conv => whnf) | (refine cnd tab_ok mix ?_; conv => whnf) | trivial))
    refine .mk [] (i + 1) (by omega) (by omega) ?_
    ((conv => whnf); (repeat first | (refine wrB (by omega) ?_; conv => whnf) | (refine okB (by kernel_rfl) ?_; conv => whnf) | (refine cb (by first | rfl | omega | (simp; done) | (simp; omega)) ?_; conv => whnf) | (refine idxB_at (by decide) rfl ?_; conv => whnf) | (refine atB_at (by decide) (by decide) ?_; conv => whnf) | (refine getB_lit _ rfl ?_; conv => whnf) | (refine cnd tab_ok mix ?_; conv => whnf) | trivial))
  · exact .same rfl
theorem refSort (R : List Ev) (hl : R.length < 2147483647) (hk : keysOk R) :
    LSpec Try.prog 43 [evsV R] [] 0 (.ac 0 6 R.length) [(0, .dat 6 ((ssort cmpEv R).map Ev.row))] 1 := by
  refine lspec tab_ok mix Try.func43 (by kernel_rfl) (by rfl) (by rfl) (by rfl) (by rfl) ?_
  ((conv => whnf); (repeat first | (refine wrB (by omega) ?_; conv => whnf) | (refine okB (by kernel_rfl) ?_; conv => whnf) | (refine cb (by first | rfl | omega | (simp; done) | (simp; omega)) ?_; conv => whnf) | (refine idxB_at (by decide) rfl ?_; conv => whnf) | (refine atB_at (by decide) (by decide) ?_; conv => whnf) | (refine getB_lit _ rfl ?_; conv => whnf) | (refine cnd tab_ok mix ?_; conv => whnf) | trivial))
  refine loopB tab_ok mix [0] [] (fun i : Nat => [(3, .ac 1 6 i), (4, V.int i)]) (fun i => [(1, .dat 6 ((ssort cmpEv (R.take i)).map Ev.row))]) (fun i => i ≤ R.length) (fun i => R.length - i) [] 0 rfl (by omega) (by ((conv => whnf); (repeat first | (refine wrB (by omega) ?_; conv => whnf) | (refine okB (by kernel_rfl) ?_; conv => whnf) | (refine cb (by first | rfl | omega | (simp; done) | (simp; omega)) ?_; conv => whnf) | (refine idxB_at (by decide) rfl ?_; conv => whnf) | (refine atB_at (by decide) (by decide) ?_; conv => whnf) | (refine getB_lit _ rfl ?_; conv => whnf) | (refine cnd tab_ok mix ?_; conv => whnf) | trivial))) ?_
  rintro i hi
  have hS : (ssort cmpEv (R.take i)).length = i := by rw [ssort_len cmpEvC, List.length_take]; omega
  have hsrt := ssort_srt cmpEvC (R.take i)
  have hkS : keysOk (ssort cmpEv (R.take i)) := fun x hx => hk x (List.mem_of_mem_take ((ssort_mem cmpEvC cmpEv_refl _ _).1 hx))
  ((conv => whnf); (repeat first | (refine wrB (by omega) ?_; conv => whnf) | (refine okB (by kernel_rfl) ?_; conv => whnf) | (refine cb (by first | rfl | omega | (simp; done) | (simp; omega)) ?_; conv => whnf) | (refine idxB_at (by decide) rfl ?_; conv => whnf) | (refine atB_at (by decide) (by decide) ?_; conv => whnf) | (refine getB_lit _ rfl ?_; conv => whnf) | (refine cnd tab_ok mix ?_; conv => whnf) | trivial))
  refine br_dec (fun g => ?_) (fun g => ?_) <;> ((conv => whnf); (repeat first | (refine wrB (by omega) ?_; conv => whnf) | (refine okB (by kernel_rfl) ?_; conv => whnf) | (refine cb (by first | rfl | omega | (simp; done) | (simp; omega)) ?_; conv => whnf) | (refine idxB_at (by decide) rfl ?_; conv => whnf) | (refine atB_at (by decide) (by decide) ?_; conv => whnf) | (refine getB_lit _ rfl ?_; conv => whnf) | (refine cnd tab_ok mix ?_; conv => whnf) | trivial))
  · simp at g
    obtain ⟨x, hx⟩ := get_lt g
    have hsn : ssort cmpEv (R.take (i + 1)) = mrg cmpEv (ssort cmpEv (R.take i)) [x] := by rw [List.take_add_one, hx]; exact ssort_snoc _ _
    generalize ssort cmpEv (R.take i) = S at *
    refine loopB tab_ok mix [0, 3, 4] [1] (fun p : Nat => [(5, V.int p)]) (fun p => []) (fun p => p ≤ i ∧ ∀ y ∈ S.drop p, cmpEv x y < 0) (fun p => p) [] i rfl ⟨by omega, by simp [← hS]⟩ (by ((conv => whnf); (repeat first | (refine wrB (by omega) ?_; conv => whnf) | (refine okB (by kernel_rfl) ?_; conv => whnf) | (refine cb (by first | rfl | omega | (simp; done) | (simp; omega)) ?_; conv => whnf) | (refine idxB_at (by decide) rfl ?_; conv => whnf) | (refine atB_at (by decide) (by decide) ?_; conv => whnf) | (refine getB_lit _ rfl ?_; conv => whnf) | (refine cnd tab_ok mix ?_; conv => whnf) | trivial))) ?_
    rintro p ⟨h1, h2⟩
    have fin : (p = 0 ∨ ∃ y, S[p - 1]? = some y ∧ ¬ 0 < cmpEv y x) → ssort cmpEv (R.take (i + 1)) = S.take p ++ x :: S.drop p := by
      intro h
      rw [hsn]
      refine mrg_last p (fun y hy => ?_) h2
      rcases h with h | ⟨y', h3, h4⟩
      · subst h; simp at hy
      · obtain ⟨q, rfl⟩ : ∃ q, p = q + 1 := by
          cases p with
          | zero => simp at hy
          | succ q => exact ⟨q, rfl⟩
        have := srt_take hsrt leEv_refl h3 y (by simpa using hy)
        exact cmpEvC.le_trans this (cmpEvC.le_iff.2 (by omega))
    ((conv => whnf); (repeat first | (refine wrB (by omega) ?_; conv => whnf) | (refine okB (by kernel_rfl) ?_; conv => whnf) | (refine cb (by first | rfl | omega | (simp; done) | (simp; omega)) ?_; conv => whnf) | (refine idxB_at (by decide) rfl ?_; conv => whnf) | (refine atB_at (by decide) (by decide) ?_; conv => whnf) | (refine getB_lit _ rfl ?_; conv => whnf) | trivial))
    refine joinB tab_ok mix [0, 3, 4, 5] [1] (fun z : Bool => [(29, V.bool z)]) (fun _ => []) (fun z => (z = true → 0 < p ∧ ∀ y ∈ S.drop (p - 1), cmpEv x y < 0) ∧ (z = false → ssort cmpEv (R.take (i + 1)) = S.take p ++ x :: S.drop p)) ?_ ?_
    · ((conv => whnf); (repeat first | (refine wrB (by omega) ?_; conv => whnf) | (refine okB (by kernel_rfl) ?_; conv => whnf) | (refine cb (by first | rfl | omega | (simp; done) | (simp; omega)) ?_; conv => whnf) | (refine idxB_at (by decide) rfl ?_; conv => whnf) | (refine atB_at (by decide) (by decide) ?_; conv => whnf) | (refine getB_lit _ rfl ?_; conv => whnf) | (refine cnd tab_ok mix ?_; conv => whnf) | trivial))
      refine br_dec (fun k => ?_) (fun k => ?_) <;> ((conv => whnf); (repeat first | (refine wrB (by omega) ?_; conv => whnf) | (refine okB (by kernel_rfl) ?_; conv => whnf) | (refine cb (by first | rfl | omega | (simp; done) | (simp; omega)) ?_; conv => whnf) | (refine idxB_at (by decide) rfl ?_; conv => whnf) | (refine atB_at (by decide) (by decide) ?_; conv => whnf) | (refine getB_lit _ rfl ?_; conv => whnf) | (refine cnd tab_ok mix ?_; conv => whnf) | trivial))
      · obtain ⟨q, rfl⟩ : ∃ q, p = q + 1 := ⟨p - 1, by omega⟩
        obtain ⟨y, hy⟩ := get_lt (show q < S.length by omega)
        refine atB_eq q (by omega) (by omega) ?_
        ((conv => whnf); (repeat first | (refine wrB (by omega) ?_; conv => whnf) | (refine okB (by kernel_rfl) ?_; conv => whnf) | (refine cb (by first | rfl | omega | (simp; done) | (simp; omega)) ?_; conv => whnf) | (refine idxB_at (by decide) rfl ?_; conv => whnf) | (refine atB_at (by decide) (by decide) ?_; conv => whnf) | (refine getB_lit _ rfl ?_; conv => whnf) | (refine cnd tab_ok mix ?_; conv => whnf) | trivial))
        refine getB hy ?_
        ((conv => whnf); (repeat first | (refine wrB (by omega) ?_; conv => whnf) | (refine okB (by kernel_rfl) ?_; conv => whnf) | (refine cb (by first | rfl | omega | (simp; done) | (simp; omega)) ?_; conv => whnf) | (refine idxB_at (by decide) rfl ?_; conv => whnf) | (refine atB_at (by decide) (by decide) ?_; conv => whnf) | (refine getB_lit _ rfl ?_; conv => whnf) | (refine cnd tab_ok mix ?_; conv => whnf) | trivial))
        refine idxB hx ?_
        ((conv => whnf); (repeat first | (refine wrB (by omega) ?_; conv => whnf) | (refine okB (by kernel_rfl) ?_; conv => whnf) | (refine cb (by first | rfl | omega | (simp; done) | (simp; omega)) ?_; conv => whnf) | (refine idxB_at (by decide) rfl ?_; conv => whnf) | (refine atB_at (by decide) (by decide) ?_; conv => whnf) | (refine getB_lit _ rfl ?_; conv => whnf) | (refine cnd tab_ok mix ?_; conv => whnf) | trivial))
        refine dcallB (refCompareEvents y x (hkS y (List.mem_of_getElem? hy))) ?_
        ((conv => whnf); (repeat first | (refine wrB (by omega) ?_; conv => whnf) | (refine okB (by kernel_rfl) ?_; conv => whnf) | (refine cb (by first | rfl | omega | (simp; done) | (simp; omega)) ?_; conv => whnf) | (refine idxB_at (by decide) rfl ?_; conv => whnf) | (refine atB_at (by decide) (by decide) ?_; conv => whnf) | (refine getB_lit _ rfl ?_; conv => whnf) | (refine cnd tab_ok mix ?_; conv => whnf) | trivial))
        refine .mk [] (decide (0 < cmpEv y x)) ⟨fun hz => ⟨by omega, fun z hz' => ?_⟩, fun hz => fin (.inr ⟨y, by simpa using hy, by simpa using hz⟩)⟩ ?_
        · simp only [decide_eq_true_eq] at hz
          rw [Nat.add_sub_cancel, drop_get hy] at hz'
          rcases List.mem_cons.1 hz' with rfl | hz'
          · rw [cmpEvC.anti]; omega
          · exact h2 z hz'
        · ((conv => whnf); (repeat first | (refine wrB (by omega) ?_; conv => whnf) | (refine okB (by kernel_rfl) ?_; conv => whnf) | (refine cb (by first | rfl | omega | (simp; done) | (simp; omega)) ?_; conv => whnf) | (refine idxB_at (by decide) rfl ?_; conv => whnf) | (refine atB_at (by decide) (by decide) ?_; conv => whnf) | (refine getB_lit _ rfl ?_; conv => whnf) | (refine cnd tab_ok mix ?_; conv => whnf) | trivial))
      · refine .mk [] false ⟨by simp, fun _ => fin (.inl (by omega))⟩ ?_
        ((conv => whnf); (repeat first | (refine wrB (by omega) ?_; conv => whnf) | (refine okB (by kernel_rfl) ?_; conv => whnf) | (refine cb (by first | rfl | omega | (simp; done) | (simp; omega)) ?_; conv => whnf) | (refine idxB_at (by decide) rfl ?_; conv => whnf) | (refine atB_at (by decide) (by decide) ?_; conv => whnf) | (refine getB_lit _ rfl ?_; conv => whnf) | (refine cnd tab_ok mix ?_; conv => whnf) | trivial))
    rintro z ⟨z1, z2⟩
    ((conv => whnf); (repeat first | (refine wrB (by omega) ?_; conv => whnf) | (refine okB (by kernel_rfl) ?_; conv => whnf) | (refine cb (by first | rfl | omega | (simp; done) | (simp; omega)) ?_; conv => whnf) | (refine idxB_at (by decide) rfl ?_; conv => whnf) | (refine atB_at (by decide) (by decide) ?_; conv => whnf) | (refine getB_lit _ rfl ?_; conv => whnf) | (refine cnd tab_ok mix ?_; conv => whnf) | trivial))
    refine brK_mk (fun hz => ?_) (fun hz => ?_) <;> ((conv => whnf); (repeat first | (refine wrB (by omega) ?_; conv => whnf) | (refine okB (by kernel_rfl) ?_; conv => whnf) | (refine cb (by first | rfl | omega | (simp; done) | (simp; omega)) ?_; conv => whnf) | (refine idxB_at (by decide) rfl ?_; conv => whnf) | (refine atB_at (by decide) (by decide) ?_; conv => whnf) | (refine getB_lit _ rfl ?_; conv => whnf) | (refine cnd tab_ok mix ?_; conv => whnf) | trivial))
    · obtain ⟨q1, q2⟩ := z1 hz
      refine .mk [] (p - 1) ⟨by omega, q2⟩ (by omega) ?_
      ((conv => whnf); (repeat first | (refine wrB (by omega) ?_; conv => whnf) | (refine okB (by kernel_rfl) ?_; conv => whnf) | (refine cb (by first | rfl | omega | (simp; done) | (simp; omega)) ?_; conv => whnf) | (refine idxB_at (by decide) rfl ?_; conv => whnf) | (refine atB_at (by decide) (by decide) ?_; conv => whnf) | (refine getB_lit _ rfl ?_; conv => whnf) | (refine cnd tab_ok mix ?_; conv => whnf) | trivial))
    · have e := z2 hz
      refine slB 0 p rfl rfl (by simp; omega) ?_
      ((conv => whnf); (repeat first | (refine wrB (by omega) ?_; conv => whnf) | (refine okB (by kernel_rfl) ?_; conv => whnf) | (refine cb (by first | rfl | omega | (simp; done) | (simp; omega)) ?_; conv => whnf) | (refine idxB_at (by decide) rfl ?_; conv => whnf) | (refine atB_at (by decide) (by decide) ?_; conv => whnf) | (refine getB_lit _ rfl ?_; conv => whnf) | (refine cnd tab_ok mix ?_; conv => whnf) | trivial))
      refine idxB hx ?_
      ((conv => whnf); (repeat first | (refine wrB (by omega) ?_; conv => whnf) | (refine okB (by kernel_rfl) ?_; conv => whnf) | (refine cb (by first | rfl | omega | (simp; done) | (simp; omega)) ?_; conv => whnf) | (refine idxB_at (by decide) rfl ?_; conv => whnf) | (refine atB_at (by decide) (by decide) ?_; conv => whnf) | (refine getB_lit _ rfl ?_; conv => whnf) | (refine cnd tab_ok mix ?_; conv => whnf) | trivial))
      refine slB p i rfl rfl (by omega) ?_
      ((conv => whnf); (repeat first | (refine wrB (by omega) ?_; conv => whnf) | (refine okB (by kernel_rfl) ?_; conv => whnf) | (refine cb (by first | rfl | omega | (simp; done) | (simp; omega)) ?_; conv => whnf) | (refine idxB_at (by decide) rfl ?_; conv => whnf) | (refine atB_at (by decide) (by decide) ?_; conv => whnf) | (refine getB_lit _ rfl ?_; conv => whnf) | (refine cnd tab_ok mix ?_; conv => whnf) | trivial))
      refine .mk [(1, 1920)] (i + 1) (by omega) (by omega) ?_
      ((conv => whnf); (repeat first | (refine wrB (by omega) ?_; conv => whnf) | (refine okB (by kernel_rfl) ?_; conv => whnf) | (refine cb (by first | rfl | omega | (simp; done) | (simp; omega)) ?_; conv => whnf) | (refine idxB_at (by decide) rfl ?_; conv => whnf) | (refine atB_at (by decide) (by decide) ?_; conv => whnf) | (refine getB_lit _ rfl ?_; conv => whnf) | (refine cnd tab_ok mix ?_; conv => whnf) | trivial))
      refine cb ?_ trivial
      rw [e, List.take_of_length_le (l := List.drop p (List.map Ev.row S)) (by simp; omega)]
      simp [List.map_take, List.map_drop, Ev.row]
  · have e : i = R.length := by simp at g; omega
    subst e
    refine .mk [(0, 1)] ?_
    ((conv => whnf); (repeat first | (refine wrB (by omega) ?_; conv => whnf) | (refine okB (by kernel_rfl) ?_; conv => whnf) | (refine cb (by first | rfl | omega | (simp; done) | (simp; omega)) ?_; conv => whnf) | (refine idxB_at (by decide) rfl ?_; conv => whnf) | (refine atB_at (by decide) (by decide) ?_; conv => whnf) | (refine getB_lit _ rfl ?_; conv => whnf) | (refine cnd tab_ok mix ?_; conv => whnf) | trivial))
    all_goals exact cb (by rw [List.take_length]) trivial
end Go.Proofs.Ytepepidjefpckaa.Abs
