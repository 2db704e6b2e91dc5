/- The queue that a script makes, reckoned by the reference. -/
import Derived.Test.YtmihhkcbbdpnaaaG63
namespace Go.Proofs.Ytmihhkcbbdpnaaa.Abs
open Go.Proofs
set_option maxRecDepth 10000
set_option linter.unusedSimpArgs false
set_option linter.unusedVariables false
theorem madeC (ops : List Op8) (ho : ∀ o ∈ ops, o.Ok) (n : Nat) (hn : n = min ops.length 150) :
    PSpec Try.prog 47 [ops8V ops] (.tup [(s8At ops n).l.v, V.int (s8At ops n).seq, V.int (s8At ops n).last]) := by
  have h0 : s8At ops 0 = st0 := rfl
  refine pspec tab_ok mix Try.func47 (by kernel_rfl) rfl rfl ?_
  ((conv => whnf); (repeat (first | ((first | refine z1 ?_ | refine z2 ?_ | refine z3 ?_ | refine idxB_at (by decide) rfl ?_ | refine atB_at (by decide) (by decide) ?_ | refine getB_lit _ rfl ?_ | refine z7 ?_); conv => whnf) | exact True.intro)))
  refine callB refNewLadC ?_
  ((conv => whnf); (repeat (first | ((first | refine z1 ?_ | refine z2 ?_ | refine z3 ?_ | refine idxB_at (by decide) rfl ?_ | refine atB_at (by decide) (by decide) ?_ | refine getB_lit _ rfl ?_ | refine z7 ?_); conv => whnf) | exact True.intro)))
  refine loopB tab_ok mix [0, 2] [0] (fun i : Nat => [(5, .p 1 6 0 0), (6, V.int (s8At ops i).last), (7, V.int (s8At ops i).seq), (8, V.int i)]) (fun i => [(1, ladB (s8At ops i).l)]) (fun i => i ≤ n) (fun i => n - i) [(1, 256)] 0 rfl (by omega) (by ((conv => whnf); (repeat (first | ((first | refine z1 ?_ | refine z2 ?_ | refine z3 ?_ | refine idxB_at (by decide) rfl ?_ | refine atB_at (by decide) (by decide) ?_ | refine getB_lit _ rfl ?_ | refine z7 ?_); conv => whnf) | exact True.intro)))) ?_
  rintro i hi
  obtain ⟨S, hI⟩ := inv8_all ho i (by omega) (by omega)
  have hs := hI.sz (by omega)
  have hseq := hI.seq
  ((conv => whnf); (repeat (first | ((first | refine z1 ?_ | refine z2 ?_ | refine z3 ?_ | refine idxB_at (by decide) rfl ?_ | refine atB_at (by decide) (by decide) ?_ | refine getB_lit _ rfl ?_ | refine z7 ?_); conv => whnf) | exact True.intro)))
  refine br_dec (fun u => ?_) (fun u => ?_) <;> ((conv => whnf); (repeat (first | ((first | refine z1 ?_ | refine z2 ?_ | refine z3 ?_ | refine idxB_at (by decide) rfl ?_ | refine atB_at (by decide) (by decide) ?_ | refine getB_lit _ rfl ?_ | refine z7 ?_); conv => whnf) | exact True.intro)))
  · have u' : i < ops.length := by simpa using u
    by_cases v : i < 150
    · rw [show decide ((i : Int) < 150) = true from decide_eq_true (by omega)]
      ((conv => whnf); (repeat (first | ((first | refine z1 ?_ | refine z2 ?_ | refine z3 ?_ | refine idxB_at (by decide) rfl ?_ | refine atB_at (by decide) (by decide) ?_ | refine getB_lit _ rfl ?_ | refine z7 ?_); conv => whnf) | exact True.intro)))
      obtain ⟨o, hx⟩ := get_lt u'
      have hok := ho o (List.mem_of_getElem? hx)
      have hnext := s8At_next hx
      have hstep := inv8_step hI (by omega) hok
      have hlast := hI.last
      refine idxB hx ?_
      ((conv => whnf); (repeat (first | ((first | refine z1 ?_ | refine z2 ?_ | refine z3 ?_ | refine idxB_at (by decide) rfl ?_ | refine atB_at (by decide) (by decide) ?_ | refine getB_lit _ rfl ?_ | refine z7 ?_); conv => whnf) | exact True.intro)))
      cases hp : o.pop with
      | true =>
        ((conv => whnf); (repeat (first | ((first | refine z1 ?_ | refine z2 ?_ | refine z3 ?_ | refine idxB_at (by decide) rfl ?_ | refine atB_at (by decide) (by decide) ?_ | refine getB_lit _ rfl ?_ | refine z7 ?_); conv => whnf) | exact True.intro)))
        obtain ⟨f1, f2⟩ := pop_asks hI.rel.good hs
        refine callB (refPopC (s8At ops i).l.siz (s8At ops i).l f1 f2) ?_
        ((conv => whnf); (repeat (first | ((first | refine z1 ?_ | refine z2 ?_ | refine z3 ?_ | refine idxB_at (by decide) rfl ?_ | refine atB_at (by decide) (by decide) ?_ | refine getB_lit _ rfl ?_ | refine z7 ?_); conv => whnf) | exact True.intro)))
        have e1 : (stStep (s8At ops i) i o).l = (popG (s8At ops i).l).1 := by unfold stStep; rw [if_pos hp]
        have e2 : (stStep (s8At ops i) i o).seq = (s8At ops i).seq := by unfold stStep; rw [if_pos hp]
        cases he : (popL (s8At ops i).l.siz (s8At ops i).l).2.2 with
        | true =>
          have e3 : (stStep (s8At ops i) i o).last = (popG (s8At ops i).l).2.1.time := by unfold stStep; rw [if_pos hp]; exact if_pos he
          ((conv => whnf); (repeat (first | ((first | refine z1 ?_ | refine z2 ?_ | refine z3 ?_ | refine idxB_at (by decide) rfl ?_ | refine atB_at (by decide) (by decide) ?_ | refine getB_lit _ rfl ?_ | refine z7 ?_); conv => whnf) | exact True.intro)))
          refine .mk [] (i + 1) (by omega) (by omega) ?_
          rw [hnext, e1, e2, e3]
          ((conv => whnf); (repeat (first | ((first | refine z1 ?_ | refine z2 ?_ | refine z3 ?_ | refine idxB_at (by decide) rfl ?_ | refine atB_at (by decide) (by decide) ?_ | refine getB_lit _ rfl ?_ | refine z7 ?_); conv => whnf) | exact True.intro)))
        | false =>
          have e3 : (stStep (s8At ops i) i o).last = (s8At ops i).last := by unfold stStep; rw [if_pos hp]; exact if_neg (by rw [show (popG (s8At ops i).l).2.2 = _ from he]; simp)
          ((conv => whnf); (repeat (first | ((first | refine z1 ?_ | refine z2 ?_ | refine z3 ?_ | refine idxB_at (by decide) rfl ?_ | refine atB_at (by decide) (by decide) ?_ | refine getB_lit _ rfl ?_ | refine z7 ?_); conv => whnf) | exact True.intro)))
          refine .mk [] (i + 1) (by omega) (by omega) ?_
          rw [hnext, e1, e2, e3]
          ((conv => whnf); (repeat (first | ((first | refine z1 ?_ | refine z2 ?_ | refine z3 ?_ | refine idxB_at (by decide) rfl ?_ | refine atB_at (by decide) (by decide) ?_ | refine getB_lit _ rfl ?_ | refine z7 ?_); conv => whnf) | exact True.intro)))
      | false =>
        have e1 : (stStep (s8At ops i) i o) = ⟨insLad (s8At ops i).l (stIt (s8At ops i) i o), (s8At ops i).seq + 1, (s8At ops i).last⟩ := by unfold stStep; rw [if_neg (by rw [hp]; simp)]
        obtain ⟨r1, r2, r3⟩ := rel_ins hI.rel (it := stIt (s8At ops i) i o) (timeO_ok hok hI.last) (hI.uq _ _)
        ((conv => whnf); (repeat (first | ((first | refine z1 ?_ | refine z2 ?_ | refine z3 ?_ | refine idxB_at (by decide) rfl ?_ | refine atB_at (by decide) (by decide) ?_ | refine getB_lit _ rfl ?_ | refine z7 ?_); conv => whnf) | exact True.intro)))
        refine idxB hx ?_
        ((conv => whnf); (repeat (first | ((first | refine z1 ?_ | refine z2 ?_ | refine z3 ?_ | refine idxB_at (by decide) rfl ?_ | refine atB_at (by decide) (by decide) ?_ | refine getB_lit _ rfl ?_ | refine z7 ?_); conv => whnf) | exact True.intro)))
        refine dcallB (timeC o hok (s8At ops i).last hI.last) ?_
        ((conv => whnf); (repeat (first | ((first | refine z1 ?_ | refine z2 ?_ | refine z3 ?_ | refine idxB_at (by decide) rfl ?_ | refine atB_at (by decide) (by decide) ?_ | refine getB_lit _ rfl ?_ | refine z7 ?_); conv => whnf) | exact True.intro)))
        refine dcallB (refInsertC (s8At ops i).l (stIt (s8At ops i) i o) (fits_of hI.rel.good hs) hI.rel.good.srt fun x hx => hI.uq _ _ x (hI.rel.perm.mem_iff.2 (by unfold Lad.items; simp [hx]))) ?_
        ((conv => whnf); (repeat (first | ((first | refine z1 ?_ | refine z2 ?_ | refine z3 ?_ | refine idxB_at (by decide) rfl ?_ | refine atB_at (by decide) (by decide) ?_ | refine getB_lit _ rfl ?_ | refine z7 ?_); conv => whnf) | exact True.intro)))
        refine .mk [] (i + 1) (by omega) (by omega) ?_
        rw [hnext, e1]
        ((conv => whnf); (repeat (first | ((first | refine z1 ?_ | refine z2 ?_ | refine z3 ?_ | refine idxB_at (by decide) rfl ?_ | refine atB_at (by decide) (by decide) ?_ | refine getB_lit _ rfl ?_ | refine z7 ?_); conv => whnf) | exact True.intro)))
    · rw [show decide ((i : Int) < 150) = false from decide_eq_false (by omega)]
      ((conv => whnf); (repeat (first | ((first | refine z1 ?_ | refine z2 ?_ | refine z3 ?_ | refine idxB_at (by decide) rfl ?_ | refine atB_at (by decide) (by decide) ?_ | refine getB_lit _ rfl ?_ | refine z7 ?_); conv => whnf) | exact True.intro)))
      obtain rfl : i = n := by omega
      exact .same rfl
  · have u' : ops.length ≤ i := by simpa using u
    obtain rfl : i = n := by omega
    exact .same rfl
end Go.Proofs.Ytmihhkcbbdpnaaa.Abs
