/- Laws of ladders as contracts: emptying a queue. -/
import Derived.Test.YtmihhkcbbdpnaaaG74
namespace Go.Proofs.Ytmihhkcbbdpnaaa.Abs
open Go.Proofs
set_option maxRecDepth 10000
set_option linter.unusedSimpArgs false
set_option linter.unusedVariables false
/-- a queue after i removals -/
def popK (l : Lad) : Nat → Lad
  | 0 => l
  | i + 1 => (popG (popK l i)).1
theorem popK_inv {l : Lad} {S : List Item} {b : Int} {n : Nat} (h : InvL l S b n) (hn : n ≤ 10000) : ∀ i, InvL (popK l i) (S.drop i) b n
  | 0 => h
  | i + 1 => by
    have ih := popK_inv h hn i
    rcases ih.pop hn with ⟨e, _, h2⟩ | ⟨x, T, e, _, h2⟩
    · have e2 : S.drop (i + 1) = [] := by rw [← List.drop_drop, e]; rfl
      rw [e2]; exact h2
    · have e2 : S.drop (i + 1) = T := by rw [← List.drop_drop, e]; rfl
      rw [e2]; exact h2
theorem sort_items {l : Lad} {S : List Item} {b : Int} {n : Nat} (h : InvL l S b n) : ssort cmpEv l.items = S := by
  have hs := ssort_lt h.rel.good.uniq
  have hp := (ssort_perm l.items).trans h.rel.perm.symm
  have h2 := h.rel.srt
  clear h
  generalize ssort cmpEv l.items = T at *
  clear l b n
  revert S
  induction T with
  | nil => intro S _ hp; exact (List.Perm.eq_nil hp.symm).symm
  | cons x T ih =>
    intro S h2 hp
    obtain ⟨S', rfl, h3, h4⟩ := srt_head h2 hp.symm (List.pairwise_cons.1 hs).1
    rw [ih (List.pairwise_cons.1 hs).2 h4 h3.symm]
set_option maxHeartbeats 1000000 in
theorem lSorts (ops : List Op8) (ho : ∀ o ∈ ops, o.Ok) : PSpec Try.prog 15 [ops8V ops] (V.bool true) := by
  have hmade := madeC ops ho (min ops.length 150) rfl
  obtain ⟨S, hI⟩ := inv8_all ho (min ops.length 150) (by omega) (by omega)
  have hL := hI.toL
  have hn : (s8At ops (min ops.length 150)).seq.toNat ≤ 150 := by have := hI.seq; omega
  generalize s8At ops (min ops.length 150) = s at *
  obtain ⟨l, seq, last⟩ := s
  dsimp only at *
  clear hI
  have hsm := hL.small (by omega)
  have hil := hL.rel.perm.length_eq
  have hsl := hL.len
  have hit := refItemsC l (by have := hL.rel.good.depth; omega) (fun r hr => hsm.each r hr) (by omega)
  have hso := refSortC l.items (by omega)
  rw [sort_items hL] at hso
  have hall := popK_inv hL (by omega)
  have h0 : popK l 0 = l := rfl
  have hs : ∀ i, popK l (i + 1) = (popG (popK l i)).1 := fun _ => rfl
  generalize popK l = g at *
  refine pspec tab_ok mix Try.func15 (by kernel_rfl) rfl rfl ?_
  ((conv => whnf); (repeat (first | ((first | refine z1 ?_ | refine z2 ?_ | refine z3 ?_ | refine idxB_at (by decide) rfl ?_ | refine atB_at (by decide) (by decide) ?_ | refine getB_lit _ rfl ?_ | refine z7 ?_); conv => whnf) | exact True.intro)))
  refine callB headC8 ?_
  ((conv => whnf); (repeat (first | ((first | refine z1 ?_ | refine z2 ?_ | refine z3 ?_ | refine idxB_at (by decide) rfl ?_ | refine atB_at (by decide) (by decide) ?_ | refine getB_lit _ rfl ?_ | refine z7 ?_); conv => whnf) | exact True.intro)))
  refine callB hmade ?_
  ((conv => whnf); (repeat (first | ((first | refine z1 ?_ | refine z2 ?_ | refine z3 ?_ | refine idxB_at (by decide) rfl ?_ | refine atB_at (by decide) (by decide) ?_ | refine getB_lit _ rfl ?_ | refine z7 ?_); conv => whnf) | exact True.intro)))
  refine callB hit ?_
  ((conv => whnf); (repeat (first | ((first | refine z1 ?_ | refine z2 ?_ | refine z3 ?_ | refine idxB_at (by decide) rfl ?_ | refine atB_at (by decide) (by decide) ?_ | refine getB_lit _ rfl ?_ | refine z7 ?_); conv => whnf) | exact True.intro)))
  refine callB hso ?_
  ((conv => whnf); (repeat (first | ((first | refine z1 ?_ | refine z2 ?_ | refine z3 ?_ | refine idxB_at (by decide) rfl ?_ | refine atB_at (by decide) (by decide) ?_ | refine getB_lit _ rfl ?_ | refine z7 ?_); conv => whnf) | exact True.intro)))
  refine loopB tab_ok mix [3, 7] [] (fun i : Nat => [(4, .p 1 6 0 0), (8, V.int i)]) (fun i => [(1, ladB (g i))]) (fun i => i ≤ S.length) (fun i => S.length - i) [(1, 576)] 0 rfl (by omega) (by rw [h0]; ((conv => whnf); (repeat (first | ((first | refine z1 ?_ | refine z2 ?_ | refine z3 ?_ | refine idxB_at (by decide) rfl ?_ | refine atB_at (by decide) (by decide) ?_ | refine getB_lit _ rfl ?_ | refine z7 ?_); conv => whnf) | exact True.intro)))) ?_
  rintro i hi
  have hg := hall i
  have hnx := hs i
  ((conv => whnf); (repeat (first | ((first | refine z1 ?_ | refine z2 ?_ | refine z3 ?_ | refine idxB_at (by decide) rfl ?_ | refine atB_at (by decide) (by decide) ?_ | refine getB_lit _ rfl ?_ | refine z7 ?_); conv => whnf) | exact True.intro)))
  refine br_dec (fun u => ?_) (fun u => ?_) <;> ((conv => whnf); (repeat (first | ((first | refine z1 ?_ | refine z2 ?_ | refine z3 ?_ | refine idxB_at (by decide) rfl ?_ | refine atB_at (by decide) (by decide) ?_ | refine getB_lit _ rfl ?_ | refine z7 ?_); conv => whnf) | exact True.intro)))
  · have u' : i < S.length := by simpa using u
    obtain ⟨x, hx⟩ := get_lt u'
    have hd : S.drop i = x :: S.drop (i + 1) := by
      have hx2 : x = S[i] := by have := List.getElem?_eq_getElem u'; rw [hx] at this; exact Option.some.inj this
      rw [hx2]; exact List.drop_eq_getElem_cons u'
    have e1 : (popG (g i)).2 = (x, true) := by
      rcases hg.pop (by omega) with ⟨e, _⟩ | ⟨y, T, e, e1, _⟩
      · rw [hd] at e; cases e
      · rw [hd] at e; cases e; rw [e1]
    have pp := popC8 hg (by omega)
    rw [e1] at pp
    refine callB pp ?_
    ((conv => whnf); (repeat (first | ((first | refine z1 ?_ | refine z2 ?_ | refine z3 ?_ | refine idxB_at (by decide) rfl ?_ | refine atB_at (by decide) (by decide) ?_ | refine getB_lit _ rfl ?_ | refine z7 ?_); conv => whnf) | exact True.intro)))
    refine idxB hx ?_
    ((conv => whnf); (repeat (first | ((first | refine z1 ?_ | refine z2 ?_ | refine z3 ?_ | refine idxB_at (by decide) rfl ?_ | refine atB_at (by decide) (by decide) ?_ | refine getB_lit _ rfl ?_ | refine z7 ?_); conv => whnf) | exact True.intro)))
    refine dneqB [true, true, true] (by kernel_rfl) rfl rfl rfl ?_
    ((conv => whnf); (repeat (first | ((first | refine z1 ?_ | refine z2 ?_ | refine z3 ?_ | refine idxB_at (by decide) rfl ?_ | refine atB_at (by decide) (by decide) ?_ | refine getB_lit _ rfl ?_ | refine z7 ?_); conv => whnf) | exact True.intro)))
    rw [show (!(decide (x.time = x.time) && (decide (x.seq = x.seq) && (decide (x.slot = x.slot) && true)))) = false by simp]
    ((conv => whnf); (repeat (first | ((first | refine z1 ?_ | refine z2 ?_ | refine z3 ?_ | refine idxB_at (by decide) rfl ?_ | refine atB_at (by decide) (by decide) ?_ | refine getB_lit _ rfl ?_ | refine z7 ?_); conv => whnf) | exact True.intro)))
    refine .mk [] (i + 1) (by omega) (by omega) ?_
    rw [hnx]
    ((conv => whnf); (repeat (first | ((first | refine z1 ?_ | refine z2 ?_ | refine z3 ?_ | refine idxB_at (by decide) rfl ?_ | refine atB_at (by decide) (by decide) ?_ | refine getB_lit _ rfl ?_ | refine z7 ?_); conv => whnf) | exact True.intro)))
  · have e : i = S.length := by simp at u; omega
    subst e
    rw [List.drop_length] at hg
    have e1 : (popG (g S.length)).2.2 = false := by
      rcases hg.pop (by omega) with ⟨_, e1, _⟩ | ⟨y, T, e, _⟩
      · rw [e1]
      · cases e
    have pp := popC8 hg (by omega)
    rw [e1] at pp
    refine callB pp ?_
    ((conv => whnf); (repeat (first | ((first | refine z1 ?_ | refine z2 ?_ | refine z3 ?_ | refine idxB_at (by decide) rfl ?_ | refine atB_at (by decide) (by decide) ?_ | refine getB_lit _ rfl ?_ | refine z7 ?_); conv => whnf) | exact True.intro)))
    refine callB (lenC8 hg (by omega)) ?_
    ((conv => whnf); (repeat (first | ((first | refine z1 ?_ | refine z2 ?_ | refine z3 ?_ | refine idxB_at (by decide) rfl ?_ | refine atB_at (by decide) (by decide) ?_ | refine getB_lit _ rfl ?_ | refine z7 ?_); conv => whnf) | exact True.intro)))
    exact .same rfl
end Go.Proofs.Ytmihhkcbbdpnaaa.Abs
