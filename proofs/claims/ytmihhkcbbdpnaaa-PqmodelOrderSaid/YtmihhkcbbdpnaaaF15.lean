/- Laws of the model as contracts: against the reference; the invariant. -/
import Derived.Test.YtmihhkcbbdpnaaaF14
namespace Go.Proofs.Ytmihhkcbbdpnaaa.Abs
open Go.Proofs
set_option maxRecDepth 10000
set_option linter.unusedSimpArgs false
set_option linter.unusedVariables false

theorem pqInvariant (k : Int) (l : List Stp) (s : Stp) (hk : 0 ≤ k ∧ k ≤ 255) : PSpec Try.prog 4 [.c (.int .u8 k), stpsV l, s.v] (V.bool true) := by
  have hm := madeM_ok hk l
  have hi := madeM_iss k l
  have hf := hm.fits (by omega)
  have hm2 := doM_ok hm s.call s.handle
  have hi2 := doM_iss (madeM k l) s.call s.handle
  have hf2 := hm2.fits (by omega)
  refine pspec tab_ok mix Try.func4 (by kernel_rfl) rfl rfl ?_
  ((conv => whnf); (repeat (first | ((first | refine z1 ?_ | refine z2 ?_ | refine z3 ?_ | refine idxB_at (by decide) rfl ?_ | refine atB_at (by decide) (by decide) ?_ | refine getB_lit _ rfl ?_ | refine z7 ?_); conv => whnf) | trivial)))
  refine callB headC10 ?_
  ((conv => whnf); (repeat (first | ((first | refine z1 ?_ | refine z2 ?_ | refine z3 ?_ | refine idxB_at (by decide) rfl ?_ | refine atB_at (by decide) (by decide) ?_ | refine getB_lit _ rfl ?_ | refine z7 ?_); conv => whnf) | trivial)))
  refine callB (madeC k l hk) ?_
  ((conv => whnf); (repeat (first | ((first | refine z1 ?_ | refine z2 ?_ | refine z3 ?_ | refine idxB_at (by decide) rfl ?_ | refine atB_at (by decide) (by decide) ?_ | refine getB_lit _ rfl ?_ | refine z7 ?_); conv => whnf) | trivial)))
  refine callB (doMC (madeM k l) s.call s.handle hf (hm.ins _ _).mono) ?_
  ((conv => whnf); (repeat (first | ((first | refine z1 ?_ | refine z2 ?_ | refine z3 ?_ | refine idxB_at (by decide) rfl ?_ | refine atB_at (by decide) (by decide) ?_ | refine getB_lit _ rfl ?_ | refine z7 ?_); conv => whnf) | trivial)))
  refine callB (validC (madeM k l) hf.ents hf.iss) ?_
  rw [okM_yes hm]
  ((conv => whnf); (repeat (first | ((first | refine z1 ?_ | refine z2 ?_ | refine z3 ?_ | refine idxB_at (by decide) rfl ?_ | refine atB_at (by decide) (by decide) ?_ | refine getB_lit _ rfl ?_ | refine z7 ?_); conv => whnf) | trivial)))
  refine callB (validC (doM (madeM k l) s.call s.handle).1 hf2.ents hf2.iss) ?_
  rw [okM_yes hm2]
  ((conv => whnf); (repeat (first | ((first | refine z1 ?_ | refine z2 ?_ | refine z3 ?_ | refine idxB_at (by decide) rfl ?_ | refine atB_at (by decide) (by decide) ?_ | refine getB_lit _ rfl ?_ | refine z7 ?_); conv => whnf) | trivial)))
  refine br_dec (fun g => ?_) (fun g => ?_) <;> ((conv => whnf); (repeat (first | ((first | refine z1 ?_ | refine z2 ?_ | refine z3 ?_ | refine idxB_at (by decide) rfl ?_ | refine atB_at (by decide) (by decide) ?_ | refine getB_lit _ rfl ?_ | refine z7 ?_); conv => whnf) | trivial)))
  · exact .same (by simp [doM_cap])
  · have e : madeM k l = (doM (madeM k l) s.call s.handle).1 := by
      revert g
      unfold doM insertM cancelM batchM
      repeat' split
      all_goals simp [Res.er]
    refine callB (refSameC (madeM k l) (doM (madeM k l) s.call s.handle).1 hf) ?_
    ((conv => whnf); (repeat (first | ((first | refine z1 ?_ | refine z2 ?_ | refine z3 ?_ | refine idxB_at (by decide) rfl ?_ | refine atB_at (by decide) (by decide) ?_ | refine getB_lit _ rfl ?_ | refine z7 ?_); conv => whnf) | trivial)))
    refine br_dec (fun _ => ?_) (fun h => absurd e h)
    ((conv => whnf); (repeat (first | ((first | refine z1 ?_ | refine z2 ?_ | refine z3 ?_ | refine idxB_at (by decide) rfl ?_ | refine atB_at (by decide) (by decide) ?_ | refine getB_lit _ rfl ?_ | refine z7 ?_); conv => whnf) | trivial)))
    exact .same (by simp [doM_cap])
set_option maxHeartbeats 1000000 in
theorem pqMatches (raw : Mod) (k : Int) (l : List Stp) (s : Stp) (r : Res) (size : Int) (hk : 0 ≤ k ∧ k ≤ 255) : PSpec Try.prog 3 [raw.v, .c (.int .u8 k), stpsV l, s.v, r.v, V.int size] (V.bool true) := by
  have hmade := madeM_ok hk l
  have himade := madeM_iss k l
  refine pspec tab_ok mix Try.func3 (by kernel_rfl) rfl rfl ?_
  ((conv => whnf); (repeat (first | ((first | refine z1 ?_ | refine z2 ?_ | refine z3 ?_ | refine idxB_at (by decide) rfl ?_ | refine atB_at (by decide) (by decide) ?_ | refine getB_lit _ rfl ?_ | refine z7 ?_); conv => whnf) | trivial)))
  refine callB headC10 ?_
  ((conv => whnf); (repeat (first | ((first | refine z1 ?_ | refine z2 ?_ | refine z3 ?_ | refine idxB_at (by decide) rfl ?_ | refine atB_at (by decide) (by decide) ?_ | refine getB_lit _ rfl ?_ | refine z7 ?_); conv => whnf) | trivial)))
  refine dcallB (smallC raw) ?_
  ((conv => whnf); (repeat (first | ((first | refine z1 ?_ | refine z2 ?_ | refine z3 ?_ | refine idxB_at (by decide) rfl ?_ | refine atB_at (by decide) (by decide) ?_ | refine getB_lit _ rfl ?_ | refine z7 ?_); conv => whnf) | trivial)))
  refine br_dec (fun g => ?_) (fun g => ?_) <;> ((conv => whnf); (repeat (first | ((first | refine z1 ?_ | refine z2 ?_ | refine z3 ?_ | refine idxB_at (by decide) rfl ?_ | refine atB_at (by decide) (by decide) ?_ | refine getB_lit _ rfl ?_ | refine z7 ?_); conv => whnf) | trivial)))
  rotate_left
  · refine callB (smallC raw) ?_
    ((conv => whnf); (repeat (first | ((first | refine z1 ?_ | refine z2 ?_ | refine z3 ?_ | refine idxB_at (by decide) rfl ?_ | refine atB_at (by decide) (by decide) ?_ | refine getB_lit _ rfl ?_ | refine z7 ?_); conv => whnf) | trivial)))
    refine br_dec (fun g' => absurd g' g) (fun _ => ?_)
    ((conv => whnf); (repeat (first | ((first | refine z1 ?_ | refine z2 ?_ | refine z3 ?_ | refine idxB_at (by decide) rfl ?_ | refine atB_at (by decide) (by decide) ?_ | refine getB_lit _ rfl ?_ | refine z7 ?_); conv => whnf) | trivial)))
    exact .same rfl
  refine br_dec (fun g2 => ?_) (fun g2 => ?_) <;> ((conv => whnf); (repeat (first | ((first | refine z1 ?_ | refine z2 ?_ | refine z3 ?_ | refine idxB_at (by decide) rfl ?_ | refine atB_at (by decide) (by decide) ?_ | refine getB_lit _ rfl ?_ | refine z7 ?_); conv => whnf) | trivial)))
  · refine callB (smallC raw) ?_
    ((conv => whnf); (repeat (first | ((first | refine z1 ?_ | refine z2 ?_ | refine z3 ?_ | refine idxB_at (by decide) rfl ?_ | refine atB_at (by decide) (by decide) ?_ | refine getB_lit _ rfl ?_ | refine z7 ?_); conv => whnf) | trivial)))
    refine br_dec (fun _ => ?_) (fun g' => absurd g g')
    ((conv => whnf); (repeat (first | ((first | refine z1 ?_ | refine z2 ?_ | refine z3 ?_ | refine idxB_at (by decide) rfl ?_ | refine atB_at (by decide) (by decide) ?_ | refine getB_lit _ rfl ?_ | refine z7 ?_); conv => whnf) | trivial)))
    exact .same (by simp at g2 ⊢; omega)
  refine dcallB (validC raw (by omega) (by omega)) ?_
  ((conv => whnf); (repeat (first | ((first | refine z1 ?_ | refine z2 ?_ | refine z3 ?_ | refine idxB_at (by decide) rfl ?_ | refine atB_at (by decide) (by decide) ?_ | refine getB_lit _ rfl ?_ | refine z7 ?_); conv => whnf) | trivial)))
  refine dcallB (refValidC raw (by omega) (by omega)) ?_
  ((conv => whnf); (repeat (first | ((first | refine z1 ?_ | refine z2 ?_ | refine z3 ?_ | refine idxB_at (by decide) rfl ?_ | refine atB_at (by decide) (by decide) ?_ | refine getB_lit _ rfl ?_ | refine z7 ?_); conv => whnf) | trivial)))
  refine br_neq (p := okM raw = okM raw) (by simp) (fun h => absurd rfl h) (fun _ => ?_)
  ((conv => whnf); (repeat (first | ((first | refine z1 ?_ | refine z2 ?_ | refine z3 ?_ | refine idxB_at (by decide) rfl ?_ | refine atB_at (by decide) (by decide) ?_ | refine getB_lit _ rfl ?_ | refine z7 ?_); conv => whnf) | trivial)))
  refine callB (madeC k l hk) ?_
  ((conv => whnf); (repeat (first | ((first | refine z1 ?_ | refine z2 ?_ | refine z3 ?_ | refine idxB_at (by decide) rfl ?_ | refine atB_at (by decide) (by decide) ?_ | refine getB_lit _ rfl ?_ | refine z7 ?_); conv => whnf) | trivial)))
  refine callB (refValidC raw (by omega) (by omega)) ?_
  ((conv => whnf); (repeat (first | ((first | refine z1 ?_ | refine z2 ?_ | refine z3 ?_ | refine idxB_at (by decide) rfl ?_ | refine atB_at (by decide) (by decide) ?_ | refine getB_lit _ rfl ?_); conv => whnf) | trivial)))
  refine joinB tab_ok mix [5, 9, 10, 13, 14] [64, 128] (fun m : Mod => []) (fun m => [(1600, .rows 4 [[V.int m.cap, entsV m.ents, V.int m.next, intsV m.iss]])]) (fun m => m.Ok ∧ m.iss.length ≤ 200) ?_ ?_
  · ((conv => whnf); (repeat (first | ((first | refine z1 ?_ | refine z2 ?_ | refine z3 ?_ | refine idxB_at (by decide) rfl ?_ | refine atB_at (by decide) (by decide) ?_ | refine getB_lit _ rfl ?_ | refine z7 ?_); conv => whnf) | trivial)))
    refine brK_mk (fun e => ?_) (fun e => ?_) <;> ((conv => whnf); (repeat (first | ((first | refine z1 ?_ | refine z2 ?_ | refine z3 ?_ | refine idxB_at (by decide) rfl ?_ | refine atB_at (by decide) (by decide) ?_ | refine getB_lit _ rfl ?_ | refine z7 ?_); conv => whnf) | trivial)))
    · refine .mk [] raw ⟨(okM_iff raw).1 e, by omega⟩ ?_
      ((conv => whnf); (repeat (first | ((first | refine z1 ?_ | refine z2 ?_ | refine z3 ?_ | refine idxB_at (by decide) rfl ?_ | refine atB_at (by decide) (by decide) ?_ | refine getB_lit _ rfl ?_ | refine z7 ?_); conv => whnf) | trivial)))
    · refine .mk [] (madeM k l) ⟨hmade, by omega⟩ ?_
      ((conv => whnf); (repeat (first | ((first | refine z1 ?_ | refine z2 ?_ | refine z3 ?_ | refine idxB_at (by decide) rfl ?_ | refine atB_at (by decide) (by decide) ?_ | refine getB_lit _ rfl ?_ | refine z7 ?_); conv => whnf) | trivial)))
  rintro m ⟨hm, hi⟩
  have hf := hm.fits (by omega)
  have hm2 := doM_ok hm s.call s.handle
  have hi2 := doM_iss m s.call s.handle
  have hf2 := hm2.fits (by omega)
  have hrl : r.evs.length ≤ 100 := by simp at g2; omega
  have hev := doM_evs (m := m) s.call s.handle
  have hev2 := doM_evs (m := m) s.call r.handle
  have hme := hf.ents
  ((conv => whnf); (repeat (first | ((first | refine z1 ?_ | refine z2 ?_ | refine z3 ?_ | refine idxB_at (by decide) rfl ?_ | refine atB_at (by decide) (by decide) ?_ | refine getB_lit _ rfl ?_ | refine z7 ?_); conv => whnf) | trivial)))
  refine callB (doMC m s.call s.handle hf (hm.ins _ _).mono) ?_
  ((conv => whnf); (repeat (first | ((first | refine z1 ?_ | refine z2 ?_ | refine z3 ?_ | refine idxB_at (by decide) rfl ?_ | refine atB_at (by decide) (by decide) ?_ | refine getB_lit _ rfl ?_ | refine z7 ?_); conv => whnf) | trivial)))
  refine callB (refDoC m s.call s.handle hf (hm.ins _ _)) ?_
  ((conv => whnf); (repeat (first | ((first | refine z1 ?_ | refine z2 ?_ | refine z3 ?_ | refine idxB_at (by decide) rfl ?_ | refine atB_at (by decide) (by decide) ?_ | refine getB_lit _ rfl ?_ | refine z7 ?_); conv => whnf) | trivial)))
  refine callB (acceptsC m s.call r hf (hm.ins _ _).mono (by omega)) ?_
  ((conv => whnf); (repeat (first | ((first | refine z1 ?_ | refine z2 ?_ | refine z3 ?_ | refine idxB_at (by decide) rfl ?_ | refine atB_at (by decide) (by decide) ?_ | refine getB_lit _ rfl ?_ | refine z7 ?_); conv => whnf) | trivial)))
  refine callB (refAcceptsC m s.call r hf (hm.ins _ _) (by omega)) ?_
  ((conv => whnf); (repeat (first | ((first | refine z1 ?_ | refine z2 ?_ | refine z3 ?_ | refine idxB_at (by decide) rfl ?_ | refine atB_at (by decide) (by decide) ?_ | refine getB_lit _ rfl ?_ | refine z7 ?_); conv => whnf) | trivial)))
  refine callB (newC size) ?_
  ((conv => whnf); (repeat (first | ((first | refine z1 ?_ | refine z2 ?_ | refine z3 ?_ | refine idxB_at (by decide) rfl ?_ | refine atB_at (by decide) (by decide) ?_ | refine getB_lit _ rfl ?_ | refine z7 ?_); conv => whnf) | trivial)))
  refine callB (refNewC size) ?_
  ((conv => whnf); (repeat (first | ((first | refine z1 ?_ | refine z2 ?_ | refine z3 ?_ | refine idxB_at (by decide) rfl ?_ | refine atB_at (by decide) (by decide) ?_ | refine getB_lit _ rfl ?_ | refine z7 ?_); conv => whnf) | trivial)))
  refine dcallB (refSameC (doM m s.call s.handle).1 (doM m s.call s.handle).1 hf2) ?_
  ((conv => whnf); (repeat (first | ((first | refine z1 ?_ | refine z2 ?_ | refine z3 ?_ | refine idxB_at (by decide) rfl ?_ | refine atB_at (by decide) (by decide) ?_ | refine getB_lit _ rfl ?_ | refine z7 ?_); conv => whnf) | trivial)))
  refine br_dec (fun _ => ?_) (fun h => absurd rfl h)
  ((conv => whnf); (repeat (first | ((first | refine z1 ?_ | refine z2 ?_ | refine z3 ?_ | refine idxB_at (by decide) rfl ?_ | refine atB_at (by decide) (by decide) ?_ | refine getB_lit _ rfl ?_ | refine z7 ?_); conv => whnf) | trivial)))
  refine dcallB (refEqualC (doM m s.call s.handle).2 (doM m s.call s.handle).2 (by omega)) ?_
  ((conv => whnf); (repeat (first | ((first | refine z1 ?_ | refine z2 ?_ | refine z3 ?_ | refine idxB_at (by decide) rfl ?_ | refine atB_at (by decide) (by decide) ?_ | refine getB_lit _ rfl ?_ | refine z7 ?_); conv => whnf) | trivial)))
  refine br_dec (fun _ => ?_) (fun h => absurd rfl h)
  ((conv => whnf); (repeat (first | ((first | refine z1 ?_ | refine z2 ?_ | refine z3 ?_ | refine idxB_at (by decide) rfl ?_ | refine atB_at (by decide) (by decide) ?_ | refine getB_lit _ rfl ?_ | refine z7 ?_); conv => whnf) | trivial)))
  have hacc : (accM m s.call r).1.Fits := by
    unfold accM
    split
    · exact (doM_ok hm s.call r.handle).fits (by have := doM_iss m s.call r.handle; omega)
    · exact hf
  refine dcallB (refSameC (accM m s.call r).1 (accM m s.call r).1 hacc) ?_
  ((conv => whnf); (repeat (first | ((first | refine z1 ?_ | refine z2 ?_ | refine z3 ?_ | refine idxB_at (by decide) rfl ?_ | refine atB_at (by decide) (by decide) ?_ | refine getB_lit _ rfl ?_ | refine z7 ?_); conv => whnf) | trivial)))
  refine br_dec (fun _ => ?_) (fun h => absurd rfl h)
  ((conv => whnf); (repeat (first | ((first | refine z1 ?_ | refine z2 ?_ | refine z3 ?_ | refine idxB_at (by decide) rfl ?_ | refine atB_at (by decide) (by decide) ?_ | refine getB_lit _ rfl ?_ | refine z7 ?_); conv => whnf) | trivial)))
  refine br_eq (p := True) (by simp) (fun _ => ?_) (fun h => absurd trivial h)
  ((conv => whnf); (repeat (first | ((first | refine z1 ?_ | refine z2 ?_ | refine z3 ?_ | refine idxB_at (by decide) rfl ?_ | refine atB_at (by decide) (by decide) ?_ | refine getB_lit _ rfl ?_ | refine z7 ?_); conv => whnf) | trivial)))
  have hnew : (newM size).1.Fits := by
    unfold newM
    split <;> exact ⟨by simp, by simp, by simp⟩
  refine dcallB (refSameC (newM size).1 (newM size).1 hnew) ?_
  ((conv => whnf); (repeat (first | ((first | refine z1 ?_ | refine z2 ?_ | refine z3 ?_ | refine idxB_at (by decide) rfl ?_ | refine atB_at (by decide) (by decide) ?_ | refine getB_lit _ rfl ?_ | refine z7 ?_); conv => whnf) | trivial)))
  refine br_dec (fun _ => ?_) (fun h => absurd rfl h)
  ((conv => whnf); (repeat (first | ((first | refine z1 ?_ | refine z2 ?_ | refine z3 ?_ | refine idxB_at (by decide) rfl ?_ | refine atB_at (by decide) (by decide) ?_ | refine getB_lit _ rfl ?_ | refine z7 ?_); conv => whnf) | trivial)))
  refine br_dec (fun _ => ?_) (fun h => absurd rfl h)
  ((conv => whnf); (repeat (first | ((first | refine z1 ?_ | refine z2 ?_ | refine z3 ?_ | refine idxB_at (by decide) rfl ?_ | refine atB_at (by decide) (by decide) ?_ | refine getB_lit _ rfl ?_ | refine z7 ?_); conv => whnf) | trivial)))
  refine dcallB (equalC (doM m s.call s.handle).2 r (by omega)) ?_
  ((conv => whnf); (repeat (first | ((first | refine z1 ?_ | refine z2 ?_ | refine z3 ?_ | refine idxB_at (by decide) rfl ?_ | refine atB_at (by decide) (by decide) ?_ | refine getB_lit _ rfl ?_ | refine z7 ?_); conv => whnf) | trivial)))
  refine dcallB (refEqualC (doM m s.call s.handle).2 r (by omega)) ?_
  ((conv => whnf); (repeat (first | ((first | refine z1 ?_ | refine z2 ?_ | refine z3 ?_ | refine idxB_at (by decide) rfl ?_ | refine atB_at (by decide) (by decide) ?_ | refine getB_lit _ rfl ?_ | refine z7 ?_); conv => whnf) | trivial)))
  exact .same (by simp)
end Go.Proofs.Ytmihhkcbbdpnaaa.Abs
