/- Laws of ladders as contracts: what keeps them valid. -/
import Derived.Test.YtmihhkcbbdpnaaaG65
namespace Go.Proofs.Ytmihhkcbbdpnaaa.Abs
open Go.Proofs
set_option maxRecDepth 10000
set_option linter.unusedSimpArgs false
set_option linter.unusedVariables false
theorem lInvariant (ops : List Op8) (ho : ∀ o ∈ ops, o.Ok) (o : Op8) (hok : o.Ok) : PSpec Try.prog 14 [ops8V ops, o.v] (V.bool true) := by
  have hmade := madeC ops ho (min ops.length 150) rfl
  obtain ⟨S, hI⟩ := inv8_all ho (min ops.length 150) (by omega) (by omega)
  have hL := hI.toL
  have hn : (s8At ops (min ops.length 150)).seq.toNat ≤ 150 := by have := hI.seq; omega
  have hlast := hI.last
  have hseq := hI.seq.1
  have ht := timeO_ok hok hlast
  have hlen := hI.len
  generalize s8At ops (min ops.length 150) = s at *
  obtain ⟨l, seq, last⟩ := s
  dsimp only at *
  clear hI
  have hA := hL.ins (it := ⟨timeO o last, seq, 0⟩) ht hseq (Int.le_refl _)
  have hiA := (insI_perm S ⟨timeO o last, seq, 0⟩).length_eq
  rw [List.length_cons] at hiA
  obtain ⟨hB1, hB2, hB3⟩ := hL.peek (by omega)
  obtain ⟨T, hC, hT1, hT2⟩ : ∃ T, InvL (popG l).1 T seq seq.toNat ∧ (T.length : Int) = (if 0 < (S.length : Int) - 1 then (S.length : Int) - 1 else 0) ∧ (popG l).2.2 = decide ((0 : Int) < S.length) := by
    rcases hL.pop (by omega) with ⟨rfl, e, h⟩ | ⟨x, T, rfl, e, h⟩
    · exact ⟨[], h, by simp, by rw [e]; rfl⟩
    · refine ⟨T, h, ?_, by rw [e]; simp⟩
      simp only [List.length_cons]
      push_cast
      split <;> omega
  refine pspec tab_ok mix Try.func14 (by kernel_rfl) rfl rfl ?_
  ((conv => whnf); (repeat (first | ((first | refine z1 ?_ | refine z2 ?_ | refine z3 ?_ | refine idxB_at (by decide) rfl ?_ | refine atB_at (by decide) (by decide) ?_ | refine getB_lit _ rfl ?_ | refine z7 ?_); conv => whnf) | exact True.intro)))
  refine callB headC8 ?_
  ((conv => whnf); (repeat (first | ((first | refine z1 ?_ | refine z2 ?_ | refine z3 ?_ | refine idxB_at (by decide) rfl ?_ | refine atB_at (by decide) (by decide) ?_ | refine getB_lit _ rfl ?_ | refine z7 ?_); conv => whnf) | exact True.intro)))
  refine callB hmade ?_
  ((conv => whnf); (repeat (first | ((first | refine z1 ?_ | refine z2 ?_ | refine z3 ?_ | refine idxB_at (by decide) rfl ?_ | refine atB_at (by decide) (by decide) ?_ | refine getB_lit _ rfl ?_ | refine z7 ?_); conv => whnf) | exact True.intro)))
  refine callB (lenC8 hL (by omega)) ?_
  ((conv => whnf); (repeat (first | ((first | refine z1 ?_ | refine z2 ?_ | refine z3 ?_ | refine idxB_at (by decide) rfl ?_ | refine atB_at (by decide) (by decide) ?_ | refine getB_lit _ rfl ?_ | refine z7 ?_); conv => whnf) | exact True.intro)))
  refine dcallB (timeC o hok last hlast) ?_
  ((conv => whnf); (repeat (first | ((first | refine z1 ?_ | refine z2 ?_ | refine z3 ?_ | refine idxB_at (by decide) rfl ?_ | refine atB_at (by decide) (by decide) ?_ | refine getB_lit _ rfl ?_ | refine z7 ?_); conv => whnf) | exact True.intro)))
  refine dcallB (insertC8 hL (by omega) (it := ⟨timeO o last, seq, 0⟩) ht (Int.le_refl _)) ?_
  ((conv => whnf); (repeat (first | ((first | refine z1 ?_ | refine z2 ?_ | refine z3 ?_ | refine idxB_at (by decide) rfl ?_ | refine atB_at (by decide) (by decide) ?_ | refine getB_lit _ rfl ?_ | refine z7 ?_); conv => whnf) | exact True.intro)))
  have pk := peekC8 hL (by omega)
  rw [hB1, hB3] at pk
  refine callB pk ?_
  ((conv => whnf); (repeat (first | ((first | refine z1 ?_ | refine z2 ?_ | refine z3 ?_ | refine idxB_at (by decide) rfl ?_ | refine atB_at (by decide) (by decide) ?_ | refine getB_lit _ rfl ?_ | refine z7 ?_); conv => whnf) | exact True.intro)))
  refine callB (popC8 hL (by omega)) ?_
  ((conv => whnf); (repeat (first | ((first | refine z1 ?_ | refine z2 ?_ | refine z3 ?_ | refine idxB_at (by decide) rfl ?_ | refine atB_at (by decide) (by decide) ?_ | refine getB_lit _ rfl ?_ | refine z7 ?_); conv => whnf) | exact True.intro)))
  refine callB (validC8 hL (by omega)) ?_
  ((conv => whnf); (repeat (first | ((first | refine z1 ?_ | refine z2 ?_ | refine z3 ?_ | refine idxB_at (by decide) rfl ?_ | refine atB_at (by decide) (by decide) ?_ | refine getB_lit _ rfl ?_ | refine z7 ?_); conv => whnf) | exact True.intro)))
  refine callB (validC8 hA (by omega)) ?_
  ((conv => whnf); (repeat (first | ((first | refine z1 ?_ | refine z2 ?_ | refine z3 ?_ | refine idxB_at (by decide) rfl ?_ | refine atB_at (by decide) (by decide) ?_ | refine getB_lit _ rfl ?_ | refine z7 ?_); conv => whnf) | exact True.intro)))
  refine callB (validC8 hB2 (by omega)) ?_
  ((conv => whnf); (repeat (first | ((first | refine z1 ?_ | refine z2 ?_ | refine z3 ?_ | refine idxB_at (by decide) rfl ?_ | refine atB_at (by decide) (by decide) ?_ | refine getB_lit _ rfl ?_ | refine z7 ?_); conv => whnf) | exact True.intro)))
  refine callB (validC8 hC (by omega)) ?_
  ((conv => whnf); (repeat (first | ((first | refine z1 ?_ | refine z2 ?_ | refine z3 ?_ | refine idxB_at (by decide) rfl ?_ | refine atB_at (by decide) (by decide) ?_ | refine getB_lit _ rfl ?_ | refine z7 ?_); conv => whnf) | exact True.intro)))
  rw [hT2]
  rw [show ((!(decide ((0 : Int) < S.length) == decide ((0 : Int) < S.length))) = false) from by simp]
  ((conv => whnf); (repeat (first | ((first | refine z1 ?_ | refine z2 ?_ | refine z3 ?_ | refine idxB_at (by decide) rfl ?_ | refine atB_at (by decide) (by decide) ?_ | refine getB_lit _ rfl ?_ | refine z7 ?_); conv => whnf) | exact True.intro)))
  rw [show ((!(decide ((0 : Int) < S.length) == decide ((0 : Int) < S.length))) = false) from by simp]
  ((conv => whnf); (repeat (first | ((first | refine z1 ?_ | refine z2 ?_ | refine z3 ?_ | refine idxB_at (by decide) rfl ?_ | refine atB_at (by decide) (by decide) ?_ | refine getB_lit _ rfl ?_ | refine z7 ?_); conv => whnf) | exact True.intro)))
  refine callB (lenC8 hA (by omega)) ?_
  ((conv => whnf); (repeat (first | ((first | refine z1 ?_ | refine z2 ?_ | refine z3 ?_ | refine idxB_at (by decide) rfl ?_ | refine atB_at (by decide) (by decide) ?_ | refine getB_lit _ rfl ?_ | refine z7 ?_); conv => whnf) | exact True.intro)))
  rw [show decide (((insI S ⟨timeO o last, seq, 0⟩).length : Int) = (S.length : Int) + 1) = true from decide_eq_true (by omega)]
  ((conv => whnf); (repeat (first | ((first | refine z1 ?_ | refine z2 ?_ | refine z3 ?_ | refine idxB_at (by decide) rfl ?_ | refine atB_at (by decide) (by decide) ?_ | refine getB_lit _ rfl ?_ | refine z7 ?_); conv => whnf) | exact True.intro)))
  refine callB (lenC8 hB2 (by omega)) ?_
  ((conv => whnf); (repeat (first | ((first | refine z1 ?_ | refine z2 ?_ | refine z3 ?_ | refine idxB_at (by decide) rfl ?_ | refine atB_at (by decide) (by decide) ?_ | refine getB_lit _ rfl ?_ | refine z7 ?_); conv => whnf) | exact True.intro)))
  rw [show decide ((S.length : Int) = (S.length : Int)) = true from decide_eq_true rfl]
  ((conv => whnf); (repeat (first | ((first | refine z1 ?_ | refine z2 ?_ | refine z3 ?_ | refine idxB_at (by decide) rfl ?_ | refine atB_at (by decide) (by decide) ?_ | refine getB_lit _ rfl ?_ | refine z7 ?_); conv => whnf) | exact True.intro)))
  refine callB (lenC8 hC (by omega)) ?_
  ((conv => whnf); (repeat (first | ((first | refine z1 ?_ | refine z2 ?_ | refine z3 ?_ | refine idxB_at (by decide) rfl ?_ | refine atB_at (by decide) (by decide) ?_ | refine getB_lit _ rfl ?_ | refine z7 ?_); conv => whnf) | exact True.intro)))
  exact .same (congrArg (fun b => V.c (.bool b)) (decide_eq_true hT1))
end Go.Proofs.Ytmihhkcbbdpnaaa.Abs
