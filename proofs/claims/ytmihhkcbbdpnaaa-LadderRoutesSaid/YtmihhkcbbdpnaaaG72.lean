/- Laws of ladders as contracts: Pop against a sorted list. -/
import Derived.Test.YtmihhkcbbdpnaaaG73
import Derived.Test.YtmihhkcbbdpnaaaG68
namespace Go.Proofs.Ytmihhkcbbdpnaaa.Abs
open Go.Proofs
set_option maxRecDepth 10000
set_option linter.unusedSimpArgs false
set_option linter.unusedVariables false
/-- the sorted list behind a script -/
def s9S (ops : List Op8) : Nat → List Item
  | 0 => []
  | i + 1 => match ops[i]? with
    | some o => if o.pop = true then (s9S ops i).drop 1 else insI (s9S ops i) (it9 (s9At ops i) i o)
    | none => s9S ops i
theorem s9S_next {ops : List Op8} {i : Nat} {o : Op8} (h : ops[i]? = some o) : s9S ops (i + 1) = if o.pop = true then (s9S ops i).drop 1 else insI (s9S ops i) (it9 (s9At ops i) i o) := by rw [s9S, h]
theorem s9S_inv {ops : List Op8} (ho : ∀ o ∈ ops, o.Ok) : ∀ i, i ≤ ops.length → i ≤ 1000 → Inv9 (s9At ops i) i (s9S ops i)
  | 0, _, _ => ⟨invL_zero, Nat.le_refl 0, (show (0 : Int) ≤ 0 ∧ (0 : Int) ≤ 1152921504606846976 by decide)⟩
  | i + 1, hi, hm => by
    have h := s9S_inv ho i (by omega) (by omega)
    obtain ⟨o, hx⟩ := get_lt (show i < ops.length by omega)
    rw [s9At_next hx, s9S_next hx]
    rcases inv9_step h (by omega) (ho o (List.mem_of_getElem? hx)) with ⟨e, _, h⟩ | ⟨e, e2, _, _, h⟩ | ⟨_, T, e, e2, _, _, h⟩
    · rw [if_neg (by rw [e]; simp)]; exact h
    · rw [if_pos e, e2]; exact h
    · rw [if_pos e, e2]; exact h
/-- sorting a sorted list with one more item is putting it in -/
theorem sort_ins {l : Lad} {S : List Item} {b : Int} {n : Nat} (h : InvL l S b n) {it : Item} (hs : b ≤ it.seq) : ssort cmpEv (S ++ [it]) = insI S it := by
  have h1 : Srt cmpEv S := h.rel.srt.imp fun {x y} hxy => by
    have : cmpItem x y < 0 := hxy
    rw [cmpEvC.le_iff]
    show cmpItem x y ≤ 0
    omega
  rw [ssort_snoc, ssort_of_srt cmpEvC cmpEv_refl h1]
  exact insI_mrg h.rel.srt (h.uq hs)
set_option maxHeartbeats 4000000 in
theorem lModel (ops : List Op8) (ho : ∀ o ∈ ops, o.Ok) : PSpec Try.prog 16 [ops8V ops] (V.bool true) := by
  have h0 : s9At ops 0 = ⟨⟨0, [], [], [], 0, 0⟩, 0, 0⟩ := rfl
  have hS0 : s9S ops 0 = [] := rfl
  refine pspec tab_ok mix Try.func16 (by kernel_rfl) rfl rfl ?_
  ((conv => whnf); (repeat (first | ((first | refine z1 ?_ | refine z2 ?_ | refine z3 ?_ | refine idxB_at (by decide) rfl ?_ | refine atB_at (by decide) (by decide) ?_ | refine getB_lit _ rfl ?_ | refine z7 ?_); conv => whnf) | exact True.intro)))
  refine callB headC8 ?_
  ((conv => whnf); (repeat (first | ((first | refine z1 ?_ | refine z2 ?_ | refine z3 ?_ | refine idxB_at (by decide) rfl ?_ | refine atB_at (by decide) (by decide) ?_ | refine getB_lit _ rfl ?_ | refine z7 ?_); conv => whnf) | exact True.intro)))
  refine br_dec (fun g => ?_) (fun g => ?_) <;> ((conv => whnf); (repeat (first | ((first | refine z1 ?_ | refine z2 ?_ | refine z3 ?_ | refine idxB_at (by decide) rfl ?_ | refine atB_at (by decide) (by decide) ?_ | refine getB_lit _ rfl ?_ | refine z7 ?_); conv => whnf) | exact True.intro)))
  · exact .same rfl
  have hl : ops.length ≤ 150 := by simp at g; omega
  refine callB newLadC ?_
  ((conv => whnf); (repeat (first | ((first | refine z1 ?_ | refine z2 ?_ | refine z3 ?_ | refine idxB_at (by decide) rfl ?_ | refine atB_at (by decide) (by decide) ?_ | refine getB_lit _ rfl ?_ | refine z7 ?_); conv => whnf) | exact True.intro)))
  refine loopB tab_ok mix [0, 3] [] (fun i : Nat => [(4, .p 1 6 0 0), (5, itemsV (s9S ops i)), (6, V.int (s9At ops i).last), (7, V.int i)]) (fun i => [(1, ladB (s9At ops i).l)]) (fun i => i ≤ ops.length) (fun i => ops.length - i) [(1, 448)] 0 rfl (by omega) (by rw [h0, hS0]; ((conv => whnf); (repeat (first | ((first | refine z1 ?_ | refine z2 ?_ | refine z3 ?_ | refine idxB_at (by decide) rfl ?_ | refine atB_at (by decide) (by decide) ?_ | refine getB_lit _ rfl ?_ | refine z7 ?_); conv => whnf) | exact True.intro)))) ?_
  rintro i hi
  have hI := s9S_inv ho i hi (by omega)
  have hL := hI.inv
  have hn := hI.n
  ((conv => whnf); (repeat (first | ((first | refine z1 ?_ | refine z2 ?_ | refine z3 ?_ | refine idxB_at (by decide) rfl ?_ | refine atB_at (by decide) (by decide) ?_ | refine getB_lit _ rfl ?_ | refine z7 ?_); conv => whnf) | exact True.intro)))
  refine br_dec (fun u => ?_) (fun u => ?_) <;> ((conv => whnf); (repeat (first | ((first | refine z1 ?_ | refine z2 ?_ | refine z3 ?_ | refine idxB_at (by decide) rfl ?_ | refine atB_at (by decide) (by decide) ?_ | refine getB_lit _ rfl ?_ | refine z7 ?_); conv => whnf) | exact True.intro)))
  · have u' : i < ops.length := by simpa using u
    obtain ⟨o, hx⟩ := get_lt u'
    have hok := ho o (List.mem_of_getElem? hx)
    have hnext := s9At_next hx
    have hnextS := s9S_next hx
    have hstep := inv9_step hI (by omega) hok
    refine idxB hx ?_
    ((conv => whnf); (repeat (first | ((first | refine z1 ?_ | refine z2 ?_ | refine z3 ?_ | refine idxB_at (by decide) rfl ?_ | refine atB_at (by decide) (by decide) ?_ | refine getB_lit _ rfl ?_ | refine z7 ?_); conv => whnf) | exact True.intro)))
    have hsz := hL.sz (by omega)
    have hlen := hL.rel.perm.length_eq
    have hsl := hL.len
    rcases hstep with ⟨hp, e, hv⟩ | ⟨hp, hS, e1, e, hv⟩ | ⟨x, T, hp, hS, e1, e, hv⟩
    · rw [hp]
      rw [if_neg (by rw [hp]; simp)] at hnextS
      ((conv => whnf); (repeat (first | ((first | refine z1 ?_ | refine z2 ?_ | refine z3 ?_ | refine idxB_at (by decide) rfl ?_ | refine atB_at (by decide) (by decide) ?_ | refine getB_lit _ rfl ?_ | refine z7 ?_); conv => whnf) | exact True.intro)))
      refine idxB hx ?_
      ((conv => whnf); (repeat (first | ((first | refine z1 ?_ | refine z2 ?_ | refine z3 ?_ | refine idxB_at (by decide) rfl ?_ | refine atB_at (by decide) (by decide) ?_ | refine getB_lit _ rfl ?_ | refine z7 ?_); conv => whnf) | exact True.intro)))
      refine callB (timeC o hok (s9At ops i).last hI.last) ?_
      ((conv => whnf); (repeat (first | ((first | refine z1 ?_ | refine z2 ?_ | refine z3 ?_ | refine idxB_at (by decide) rfl ?_ | refine atB_at (by decide) (by decide) ?_ | refine getB_lit _ rfl ?_ | refine z7 ?_); conv => whnf) | exact True.intro)))
      refine callB (insertC8 hL (by omega) (it := it9 (s9At ops i) i o) (timeO_ok hok hI.last) (Int.le_refl _)) ?_
      ((conv => whnf); (repeat (first | ((first | refine z1 ?_ | refine z2 ?_ | refine z3 ?_ | refine idxB_at (by decide) rfl ?_ | refine atB_at (by decide) (by decide) ?_ | refine getB_lit _ rfl ?_ | refine z7 ?_); conv => whnf) | exact True.intro)))
      refine dcallL (refSortC (s9S ops i ++ [it9 (s9At ops i) i o]) (by rw [List.length_append, List.length_singleton]; omega)).toL [] [2624] ?_
      rw [sort_ins hL (it := it9 (s9At ops i) i o) (Int.le_refl _)]
      ((conv => whnf); (repeat (first | ((first | refine z1 ?_ | refine z2 ?_ | refine z3 ?_ | refine idxB_at (by decide) rfl ?_ | refine atB_at (by decide) (by decide) ?_ | refine getB_lit _ rfl ?_ | refine z7 ?_); conv => whnf) | exact True.intro)))
      refine cb ⟨by simp, by simp [Item.row, it9]⟩ ?_
      ((conv => whnf); (repeat (first | ((first | refine z1 ?_ | refine z2 ?_ | refine z3 ?_ | refine idxB_at (by decide) rfl ?_ | refine atB_at (by decide) (by decide) ?_ | refine getB_lit _ rfl ?_ | refine z7 ?_); conv => whnf) | exact True.intro)))
      refine .mk [] (i + 1) (by omega) (by omega) ?_
      rw [hnext, hnextS, e]
      ((conv => whnf); (repeat (first | ((first | refine z1 ?_ | refine z2 ?_ | refine z3 ?_ | refine idxB_at (by decide) rfl ?_ | refine atB_at (by decide) (by decide) ?_ | refine getB_lit _ rfl ?_ | refine z7 ?_); conv => whnf) | exact True.intro)))
    · rw [hp]
      rw [if_pos hp] at hnextS
      ((conv => whnf); (repeat (first | ((first | refine z1 ?_ | refine z2 ?_ | refine z3 ?_ | refine idxB_at (by decide) rfl ?_ | refine atB_at (by decide) (by decide) ?_ | refine getB_lit _ rfl ?_ | refine z7 ?_); conv => whnf) | exact True.intro)))
      refine callB (popC8 hL (by omega)) ?_
      ((conv => whnf); (repeat (first | ((first | refine z1 ?_ | refine z2 ?_ | refine z3 ?_ | refine idxB_at (by decide) rfl ?_ | refine atB_at (by decide) (by decide) ?_ | refine getB_lit _ rfl ?_ | refine z7 ?_); conv => whnf) | exact True.intro)))
      rw [e1, hS]
      ((conv => whnf); (repeat (first | ((first | refine z1 ?_ | refine z2 ?_ | refine z3 ?_ | refine idxB_at (by decide) rfl ?_ | refine atB_at (by decide) (by decide) ?_ | refine getB_lit _ rfl ?_ | refine z7 ?_); conv => whnf) | exact True.intro)))
      refine .mk [] (i + 1) (by omega) (by omega) ?_
      rw [hnext, hnextS, e, hS]
      ((conv => whnf); (repeat (first | ((first | refine z1 ?_ | refine z2 ?_ | refine z3 ?_ | refine idxB_at (by decide) rfl ?_ | refine atB_at (by decide) (by decide) ?_ | refine getB_lit _ rfl ?_ | refine z7 ?_); conv => whnf) | exact True.intro)))
    · rw [hp]
      rw [if_pos hp] at hnextS
      ((conv => whnf); (repeat (first | ((first | refine z1 ?_ | refine z2 ?_ | refine z3 ?_ | refine idxB_at (by decide) rfl ?_ | refine atB_at (by decide) (by decide) ?_ | refine getB_lit _ rfl ?_ | refine z7 ?_); conv => whnf) | exact True.intro)))
      refine callB (popC8 hL (by omega)) ?_
      ((conv => whnf); (repeat (first | ((first | refine z1 ?_ | refine z2 ?_ | refine z3 ?_ | refine idxB_at (by decide) rfl ?_ | refine atB_at (by decide) (by decide) ?_ | refine getB_lit _ rfl ?_ | refine z7 ?_); conv => whnf) | exact True.intro)))
      have e2 : (popG (s9At ops i).l).2.2 = true := by rw [e1]
      have e3 : (popG (s9At ops i).l).2.1 = x := by rw [e1]
      rw [e2, e3, hS]
      ((conv => whnf); (repeat (first | ((first | refine z1 ?_ | refine z2 ?_ | refine z3 ?_ | refine idxB_at (by decide) rfl ?_ | refine atB_at (by decide) (by decide) ?_ | refine getB_lit _ rfl ?_ | refine z7 ?_); conv => whnf) | exact True.intro)))
      rw [show decide ((0 : Int) < ((List.map Item.row (x :: T)).length : Int)) = true from decide_eq_true (by simp <;> omega)]
      ((conv => whnf); (repeat (first | ((first | refine z1 ?_ | refine z2 ?_ | refine z3 ?_ | refine idxB_at (by decide) rfl ?_ | refine atB_at (by decide) (by decide) ?_ | refine getB_lit _ rfl ?_ | refine z7 ?_); conv => whnf) | exact True.intro)))
      refine dneqB [true, true, true] (by kernel_rfl) rfl rfl rfl ?_
      ((conv => whnf); (repeat (first | ((first | refine z1 ?_ | refine z2 ?_ | refine z3 ?_ | refine idxB_at (by decide) rfl ?_ | refine atB_at (by decide) (by decide) ?_ | refine getB_lit _ rfl ?_ | refine z7 ?_); conv => whnf) | exact True.intro)))
      rw [show (!(decide (x.time = x.time) && (decide (x.seq = x.seq) && (decide (x.slot = x.slot) && true)))) = false by simp]
      ((conv => whnf); (repeat (first | ((first | refine z1 ?_ | refine z2 ?_ | refine z3 ?_ | refine idxB_at (by decide) rfl ?_ | refine atB_at (by decide) (by decide) ?_ | refine getB_lit _ rfl ?_ | refine z7 ?_); conv => whnf) | exact True.intro)))
      refine slB 1 (x :: T).length rfl (by simp [isHi]) (by simp <;> omega) ?_
      ((conv => whnf); (repeat (first | ((first | refine z1 ?_ | refine z2 ?_ | refine z3 ?_ | refine idxB_at (by decide) rfl ?_ | refine atB_at (by decide) (by decide) ?_ | refine getB_lit _ rfl ?_ | refine z7 ?_); conv => whnf) | exact True.intro)))
      refine .mk [] (i + 1) (by omega) (by omega) ?_
      rw [hnext, hnextS, e, hS]
      ((conv => whnf); (repeat (first | ((first | refine z1 ?_ | refine z2 ?_ | refine z3 ?_ | refine idxB_at (by decide) rfl ?_ | refine atB_at (by decide) (by decide) ?_ | refine getB_lit _ rfl ?_ | refine z7 ?_); conv => whnf) | exact True.intro)))
      exact cb (by simp [List.take_of_length_le]) (by ((conv => whnf); (repeat (first | ((first | refine z1 ?_ | refine z2 ?_ | refine z3 ?_ | refine idxB_at (by decide) rfl ?_ | refine atB_at (by decide) (by decide) ?_ | refine getB_lit _ rfl ?_ | refine z7 ?_); conv => whnf) | exact True.intro))))
  · have e : i = ops.length := by simp at u; omega
    subst e
    refine callB (lenC8 hL (by omega)) ?_
    ((conv => whnf); (repeat (first | ((first | refine z1 ?_ | refine z2 ?_ | refine z3 ?_ | refine idxB_at (by decide) rfl ?_ | refine atB_at (by decide) (by decide) ?_ | refine getB_lit _ rfl ?_ | refine z7 ?_); conv => whnf) | exact True.intro)))
    exact .same (congrArg (fun b => V.c (.bool b)) (decide_eq_true (by simp)))
end Go.Proofs.Ytmihhkcbbdpnaaa.Abs
