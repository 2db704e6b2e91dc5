/- Laws of ladders as contracts: looking at the first item. -/
import Derived.Test.YtmihhkcbbdpnaaaG67
namespace Go.Proofs.Ytmihhkcbbdpnaaa.Abs
open Go.Proofs
set_option maxRecDepth 10000
set_option linter.unusedSimpArgs false
set_option linter.unusedVariables false
theorem fillG_idem {l : Lad} (h : l.Good) (hs : l.Sz) : fillG (fillG l) = fillG l := by
  cases hb : (fillG l).bottom with
  | nil =>
    obtain ⟨e1, e2, _⟩ := fillG_empty h hs hb
    rw [fillG, fillN_empty e1 e2]
  | cons x t =>
    rw [fillG]
    cases hz : (fillG l).siz with
    | zero => rfl
    | succ n => rw [fillN, if_neg (by rw [hb]; simp)]
theorem selfEq (x : Item) : (!(decide (x.time = x.time) && (decide (x.seq = x.seq) && (decide (x.slot = x.slot) && true)))) = false := by simp
theorem selfEqT (x : Item) : (decide (x.time = x.time) && (decide (x.seq = x.seq) && (decide (x.slot = x.slot) && true))) = true := by simp
theorem selfB (b : Bool) : (!(b == b)) = false := by simp
theorem sameC8 {l : Lad} {S : List Item} {b : Int} {n : Nat} (h : InvL l S b n) (hn : n ≤ 10000) : PSpec Try.prog 57 [l.v, l.v] (V.bool true) := by
  have hs := h.small hn
  have h1 := hs.len
  have h2 := h1
  unfold Lad.items at h2
  simp only [List.length_append] at h2
  refine sameLadC l (by omega) (by omega) hs.rungs fun r hr => ⟨hs.each r hr, fun b hb => ?_⟩
  have := flat_mem_le hb
  have := items_small hs hr
  omega
theorem lPeeks (ops : List Op8) (ho : ∀ o ∈ ops, o.Ok) (o : Op8) (hok : o.Ok) : PSpec Try.prog 17 [ops8V ops, o.v] (V.bool true) := by
  have hmade := madeC ops ho (min ops.length 150) rfl
  obtain ⟨S, hI⟩ := inv8_all ho (min ops.length 150) (by omega) (by omega)
  have hL := hI.toL
  have hn : (s8At ops (min ops.length 150)).seq.toNat ≤ 150 := by have := hI.seq; omega
  have hlast := hI.last
  have hseq := hI.seq.1
  have ht := timeO_ok hok hlast
  generalize s8At ops (min ops.length 150) = s at *
  obtain ⟨l, seq, last⟩ := s
  dsimp only at *
  clear hI
  have hs := hL.sz (by omega)
  obtain ⟨hB1, hB2, hB3⟩ := hL.peek (by omega)
  have hid := fillG_idem hL.rel.good hs
  obtain ⟨hC1, hC2, hC3⟩ := hB2.peek (by omega)
  rw [hid] at hC1 hC2
  have pk1 := peekC8 hL (by omega)
  rw [hB1, hB3] at pk1
  have pk2 := peekC8 hB2 (by omega)
  rw [hC1, hC3] at pk2
  have hpop : popG (fillG l) = popG l := by
    have e : ∀ m : Lad, popG m = (if (peekG m).2.2 = true then ({ (peekG m).1 with bottom := (peekG m).1.bottom.drop 1 }, (peekG m).2.1, true) else peekG m) := fun m => rfl
    have e2 : peekG (fillG l) = peekG l := by rw [peekG_eq, peekG_eq, hid]
    rw [e, e, e2]
  rw [hpop] at pk2
  have pp1 := popC8 hL (by omega)
  have pp2 := popC8 hB2 (by omega)
  rw [hpop] at pp2
  have hA := hL.ins (it := ⟨timeO o last, seq, 0⟩) ht hseq (Int.le_refl _)
  have hA' := hB2.ins (it := ⟨timeO o last, seq, 0⟩) ht hseq (Int.le_refl _)
  have hiA := (insI_perm S ⟨timeO o last, seq, 0⟩).length_eq
  rw [List.length_cons] at hiA
  obtain ⟨x, U, hxU⟩ : ∃ x U, insI S ⟨timeO o last, seq, 0⟩ = x :: U := by
    cases hz : insI S ⟨timeO o last, seq, 0⟩ with
    | nil => rw [hz] at hiA; simp at hiA
    | cons x U => exact ⟨x, U, rfl⟩
  have q1 := popC8 hA (by omega)
  have q2 := popC8 hA' (by omega)
  have r1 : (popG (insLad l ⟨timeO o last, seq, 0⟩)).2.1 = x := by
    rcases hA.pop (by omega) with ⟨e, _⟩ | ⟨y, T, e, e1, _⟩
    · rw [hxU] at e; cases e
    · rw [hxU] at e; cases e; rw [e1]
  have r2 : (popG (insLad (fillG l) ⟨timeO o last, seq, 0⟩)).2.1 = x := by
    rcases hA'.pop (by omega) with ⟨e, _⟩ | ⟨y, T, e, e1, _⟩
    · rw [hxU] at e; cases e
    · rw [hxU] at e; cases e; rw [e1]
  rw [r1] at q1
  rw [r2] at q2
  refine pspec tab_ok mix Try.func17 (by kernel_rfl) rfl rfl ?_
  ((conv => whnf); (repeat (first | ((first | refine z1 ?_ | refine z2 ?_ | refine z3 ?_ | refine idxB_at (by decide) rfl ?_ | refine atB_at (by decide) (by decide) ?_ | refine getB_lit _ rfl ?_ | refine z7 ?_); conv => whnf) | exact True.intro)))
  refine callB headC8 ?_
  ((conv => whnf); (repeat (first | ((first | refine z1 ?_ | refine z2 ?_ | refine z3 ?_ | refine idxB_at (by decide) rfl ?_ | refine atB_at (by decide) (by decide) ?_ | refine getB_lit _ rfl ?_ | refine z7 ?_); conv => whnf) | exact True.intro)))
  refine callB hmade ?_
  ((conv => whnf); (repeat (first | ((first | refine z1 ?_ | refine z2 ?_ | refine z3 ?_ | refine idxB_at (by decide) rfl ?_ | refine atB_at (by decide) (by decide) ?_ | refine getB_lit _ rfl ?_ | refine z7 ?_); conv => whnf) | exact True.intro)))
  refine callB pk1 ?_
  ((conv => whnf); (repeat (first | ((first | refine z1 ?_ | refine z2 ?_ | refine z3 ?_ | refine idxB_at (by decide) rfl ?_ | refine atB_at (by decide) (by decide) ?_ | refine getB_lit _ rfl ?_ | refine z7 ?_); conv => whnf) | exact True.intro)))
  refine callB pk2 ?_
  ((conv => whnf); (repeat (first | ((first | refine z1 ?_ | refine z2 ?_ | refine z3 ?_ | refine idxB_at (by decide) rfl ?_ | refine atB_at (by decide) (by decide) ?_ | refine getB_lit _ rfl ?_ | refine z7 ?_); conv => whnf) | exact True.intro)))
  refine callB pp1 ?_
  ((conv => whnf); (repeat (first | ((first | refine z1 ?_ | refine z2 ?_ | refine z3 ?_ | refine idxB_at (by decide) rfl ?_ | refine atB_at (by decide) (by decide) ?_ | refine getB_lit _ rfl ?_ | refine z7 ?_); conv => whnf) | exact True.intro)))
  refine callB pp2 ?_
  ((conv => whnf); (repeat (first | ((first | refine z1 ?_ | refine z2 ?_ | refine z3 ?_ | refine idxB_at (by decide) rfl ?_ | refine atB_at (by decide) (by decide) ?_ | refine getB_lit _ rfl ?_ | refine z7 ?_); conv => whnf) | exact True.intro)))
  refine neqB [true, true, true] (by kernel_rfl) rfl rfl rfl ?_
  ((conv => whnf); (repeat (first | ((first | refine z1 ?_ | refine z2 ?_ | refine z3 ?_ | refine idxB_at (by decide) rfl ?_ | refine atB_at (by decide) (by decide) ?_ | refine getB_lit _ rfl ?_ | refine z7 ?_); conv => whnf) | exact True.intro)))
  rw [selfEq]
  ((conv => whnf); (repeat (first | ((first | refine z1 ?_ | refine z2 ?_ | refine z3 ?_ | refine idxB_at (by decide) rfl ?_ | refine atB_at (by decide) (by decide) ?_ | refine getB_lit _ rfl ?_ | refine z7 ?_); conv => whnf) | exact True.intro)))
  refine neqB [true, true, true] (by kernel_rfl) rfl rfl rfl ?_
  ((conv => whnf); (repeat (first | ((first | refine z1 ?_ | refine z2 ?_ | refine z3 ?_ | refine idxB_at (by decide) rfl ?_ | refine atB_at (by decide) (by decide) ?_ | refine getB_lit _ rfl ?_ | refine z7 ?_); conv => whnf) | exact True.intro)))
  rw [selfEq]
  ((conv => whnf); (repeat (first | ((first | refine z1 ?_ | refine z2 ?_ | refine z3 ?_ | refine idxB_at (by decide) rfl ?_ | refine atB_at (by decide) (by decide) ?_ | refine getB_lit _ rfl ?_ | refine z7 ?_); conv => whnf) | exact True.intro)))
  rw [selfB]
  ((conv => whnf); (repeat (first | ((first | refine z1 ?_ | refine z2 ?_ | refine z3 ?_ | refine idxB_at (by decide) rfl ?_ | refine atB_at (by decide) (by decide) ?_ | refine getB_lit _ rfl ?_ | refine z7 ?_); conv => whnf) | exact True.intro)))
  rw [selfB]
  ((conv => whnf); (repeat (first | ((first | refine z1 ?_ | refine z2 ?_ | refine z3 ?_ | refine idxB_at (by decide) rfl ?_ | refine atB_at (by decide) (by decide) ?_ | refine getB_lit _ rfl ?_ | refine z7 ?_); conv => whnf) | exact True.intro)))
  refine neqB [true, true, true] (by kernel_rfl) rfl rfl rfl ?_
  ((conv => whnf); (repeat (first | ((first | refine z1 ?_ | refine z2 ?_ | refine z3 ?_ | refine idxB_at (by decide) rfl ?_ | refine atB_at (by decide) (by decide) ?_ | refine getB_lit _ rfl ?_ | refine z7 ?_); conv => whnf) | exact True.intro)))
  rw [selfEq]
  ((conv => whnf); (repeat (first | ((first | refine z1 ?_ | refine z2 ?_ | refine z3 ?_ | refine idxB_at (by decide) rfl ?_ | refine atB_at (by decide) (by decide) ?_ | refine getB_lit _ rfl ?_ | refine z7 ?_); conv => whnf) | exact True.intro)))
  rw [selfB]
  ((conv => whnf); (repeat (first | ((first | refine z1 ?_ | refine z2 ?_ | refine z3 ?_ | refine idxB_at (by decide) rfl ?_ | refine atB_at (by decide) (by decide) ?_ | refine getB_lit _ rfl ?_ | refine z7 ?_); conv => whnf) | exact True.intro)))
  refine callB (sameC8 hB2 (by omega)) ?_
  ((conv => whnf); (repeat (first | ((first | refine z1 ?_ | refine z2 ?_ | refine z3 ?_ | refine idxB_at (by decide) rfl ?_ | refine atB_at (by decide) (by decide) ?_ | refine getB_lit _ rfl ?_ | refine z7 ?_); conv => whnf) | exact True.intro)))
  have hP : ∃ T, InvL (popG l).1 T seq seq.toNat := by
    rcases hL.pop (by omega) with ⟨_, _, h⟩ | ⟨_, T, _, _, h⟩
    · exact ⟨_, h⟩
    · exact ⟨T, h⟩
  obtain ⟨T, hP⟩ := hP
  refine callB (sameC8 hP (by omega)) ?_
  ((conv => whnf); (repeat (first | ((first | refine z1 ?_ | refine z2 ?_ | refine z3 ?_ | refine idxB_at (by decide) rfl ?_ | refine atB_at (by decide) (by decide) ?_ | refine getB_lit _ rfl ?_ | refine z7 ?_); conv => whnf) | exact True.intro)))
  refine callB (timeC o hok last hlast) ?_
  ((conv => whnf); (repeat (first | ((first | refine z1 ?_ | refine z2 ?_ | refine z3 ?_ | refine idxB_at (by decide) rfl ?_ | refine atB_at (by decide) (by decide) ?_ | refine getB_lit _ rfl ?_ | refine z7 ?_); conv => whnf) | exact True.intro)))
  refine callB (insertC8 hL (by omega) (it := ⟨timeO o last, seq, 0⟩) ht (Int.le_refl _)) ?_
  ((conv => whnf); (repeat (first | ((first | refine z1 ?_ | refine z2 ?_ | refine z3 ?_ | refine idxB_at (by decide) rfl ?_ | refine atB_at (by decide) (by decide) ?_ | refine getB_lit _ rfl ?_ | refine z7 ?_); conv => whnf) | exact True.intro)))
  refine callB q1 ?_
  ((conv => whnf); (repeat (first | ((first | refine z1 ?_ | refine z2 ?_ | refine z3 ?_ | refine idxB_at (by decide) rfl ?_ | refine atB_at (by decide) (by decide) ?_ | refine getB_lit _ rfl ?_ | refine z7 ?_); conv => whnf) | exact True.intro)))
  refine callB (insertC8 hB2 (by omega) (it := ⟨timeO o last, seq, 0⟩) ht (Int.le_refl _)) ?_
  ((conv => whnf); (repeat (first | ((first | refine z1 ?_ | refine z2 ?_ | refine z3 ?_ | refine idxB_at (by decide) rfl ?_ | refine atB_at (by decide) (by decide) ?_ | refine getB_lit _ rfl ?_ | refine z7 ?_); conv => whnf) | exact True.intro)))
  refine callB q2 ?_
  ((conv => whnf); (repeat (first | ((first | refine z1 ?_ | refine z2 ?_ | refine z3 ?_ | refine idxB_at (by decide) rfl ?_ | refine atB_at (by decide) (by decide) ?_ | refine getB_lit _ rfl ?_ | refine z7 ?_); conv => whnf) | exact True.intro)))
  refine eqB [true, true, true] (by kernel_rfl) rfl rfl rfl ?_
  ((conv => whnf); (repeat (first | ((first | refine z1 ?_ | refine z2 ?_ | refine z3 ?_ | refine idxB_at (by decide) rfl ?_ | refine atB_at (by decide) (by decide) ?_ | refine getB_lit _ rfl ?_ | refine z7 ?_); conv => whnf) | exact True.intro)))
  rw [selfEqT]
  ((conv => whnf); (repeat (first | ((first | refine z1 ?_ | refine z2 ?_ | refine z3 ?_ | refine idxB_at (by decide) rfl ?_ | refine atB_at (by decide) (by decide) ?_ | refine getB_lit _ rfl ?_ | refine z7 ?_); conv => whnf) | exact True.intro)))
  have hle : (popG l).2.2 = true → cmpItem x (popG l).2.1 ≤ 0 := by
    intro hok2
    rcases hL.pop (by omega) with ⟨_, e, _⟩ | ⟨y, T', e, e1, _⟩
    · rw [e] at hok2; cases hok2
    · rw [e1]
      dsimp only
      have hm : y ∈ x :: U := by rw [← hxU]; exact insI_mem8.2 (.inr (by rw [e]; exact List.mem_cons_self))
      have hsrt := hA.rel.srt
      rw [hxU] at hsrt
      rcases List.mem_cons.1 hm with rfl | hm
      · have : cmpItem y y = 0 := cmpEv_refl y
        omega
      · have : cmpItem x y < 0 := (List.pairwise_cons.1 hsrt).1 y hm
        omega
  cases hk : (popG l).2.2 with
  | false =>
    ((conv => whnf); (repeat (first | ((first | refine z1 ?_ | refine z2 ?_ | refine z3 ?_ | refine idxB_at (by decide) rfl ?_ | refine atB_at (by decide) (by decide) ?_ | refine getB_lit _ rfl ?_ | refine z7 ?_); conv => whnf) | exact True.intro)))
    exact .same rfl
  | true =>
    ((conv => whnf); (repeat (first | ((first | refine z1 ?_ | refine z2 ?_ | refine z3 ?_ | refine idxB_at (by decide) rfl ?_ | refine atB_at (by decide) (by decide) ?_ | refine getB_lit _ rfl ?_ | refine z7 ?_); conv => whnf) | exact True.intro)))
    refine callB (refCompareItems x (popG l).2.1) ?_
    ((conv => whnf); (repeat (first | ((first | refine z1 ?_ | refine z2 ?_ | refine z3 ?_ | refine idxB_at (by decide) rfl ?_ | refine atB_at (by decide) (by decide) ?_ | refine getB_lit _ rfl ?_ | refine z7 ?_); conv => whnf) | exact True.intro)))
    exact .same (congrArg (fun b => V.c (.bool b)) (decide_eq_true (hle hk)))
end Go.Proofs.Ytmihhkcbbdpnaaa.Abs
