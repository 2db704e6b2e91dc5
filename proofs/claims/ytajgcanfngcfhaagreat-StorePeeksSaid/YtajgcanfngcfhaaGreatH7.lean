/- The store: a new one. -/
import Derived.Test.YtajgcanfngcfhaaGreatH6
namespace Go.Proofs.YtajgcanfngcfhaaGreat.Abs
open Go.Proofs
set_option maxRecDepth 10000
set_option linter.unusedSimpArgs false
set_option linter.unusedVariables false
/-- a list, its first k and last k members exchanged -/
def revK (l : List Int) (k : Nat) : List Int := (List.range l.length).map fun p => if p < k ∨ l.length ≤ p + k then (l[l.length - 1 - p]?).getD 0 else (l[p]?).getD 0
theorem revK_len (l : List Int) (k : Nat) : (revK l k).length = l.length := by simp [revK]
theorem revK_get (l : List Int) (k : Nat) {p : Nat} (h : p < l.length) : (revK l k)[p]? = some (if p < k ∨ l.length ≤ p + k then (l[l.length - 1 - p]?).getD 0 else (l[p]?).getD 0) := by
  unfold revK
  rw [List.getElem?_map, List.getElem?_range h]; rfl
theorem revK_zero (l : List Int) : revK l 0 = l := by
  apply List.ext_getElem?
  intro p
  by_cases h : p < l.length
  · rw [revK_get l 0 h, if_neg (by omega), List.getElem?_eq_getElem h]; rfl
  · rw [List.getElem?_eq_none (by rw [revK_len]; omega), List.getElem?_eq_none (by omega)]
theorem revK_end (l : List Int) {k : Nat} (h : l.length ≤ 2 * k + 1) : revK l k = l.reverse := by
  apply List.ext_getElem?
  intro p
  by_cases hp : p < l.length
  · rw [revK_get l k hp, List.getElem?_reverse hp]
    have h1 : (l[l.length - 1 - p]?).getD 0 = l[l.length - 1 - p]'(by omega) := by rw [List.getElem?_eq_getElem (by omega)]; rfl
    by_cases c : p < k ∨ l.length ≤ p + k
    · rw [if_pos c, h1, List.getElem?_eq_getElem (by omega)]
    · rw [if_neg c]
      have e : l.length - 1 - p = p := by omega
      rw [e, List.getElem?_eq_getElem hp]; rfl
  · rw [List.getElem?_eq_none (by rw [revK_len]; omega), List.getElem?_eq_none (by rw [List.length_reverse]; omega)]
theorem revK_next (l : List Int) {k : Nat} (h : 2 * k + 1 < l.length) :
    ((revK l k).set k ((l[l.length - 1 - k]?).getD 0)).set (l.length - 1 - k) ((l[k]?).getD 0) = revK l (k + 1) := by
  apply List.ext_getElem?
  intro p
  by_cases hp : p < l.length
  · rw [revK_get l (k + 1) hp, List.getElem?_set, List.getElem?_set, List.length_set, revK_len, revK_get l k hp]
    by_cases h1 : l.length - 1 - k = p
    · rw [if_pos h1, if_pos (by omega), if_pos (by omega), show l.length - 1 - p = k by omega]
    · rw [if_neg h1]
      by_cases h2 : k = p
      · rw [if_pos h2, if_pos (by omega), if_pos (by omega), h2]
      · rw [if_neg h2]
        by_cases c : p < k ∨ l.length ≤ p + k
        · rw [if_pos c, if_pos (by omega)]
        · rw [if_neg c, if_neg (by omega)]
  · rw [List.getElem?_eq_none (by simp [revK_len]; omega), List.getElem?_eq_none (by rw [revK_len]; omega)]
theorem reverseC (l : List Int) (hl : l.length < 1000000) : LSpec Tryz.prog 173 [.ac 0 1 l.length] [(0, .dat 1 (l.map intD))] 1 (.tup []) [(0, .dat 1 (l.reverse.map intD))] 1 := by
  have h0 := revK_zero l
  refine lspec tab_ok mix Tryz.func173 (by kernel_rfl) (by rfl) (by rfl) (by rfl) (by rfl) ?_
  ((conv => whnf); (repeat (first | ((first | refine z1 ?_ | refine z2 ?_ | refine z3 ?_ | refine idxB_at (by decide) rfl ?_ | refine atB_at (by decide) (by decide) ?_ | refine getB_lit _ rfl ?_ | refine z7 ?_); conv => whnf) | exact True.intro)))
  refine loopB tab_ok mix [0] [] (fun k : Nat => [(2, V.int k), (3, V.int ((l.length : Int) - 1 - k))]) (fun k => [(0, .dat 1 ((revK l k).map intD))]) (fun k => 2 * k ≤ l.length + 1) (fun k => l.length + 1 - k) [] 0 rfl (by omega) (by rw [h0]; ((conv => whnf); (repeat (first | ((first | refine z1 ?_ | refine z2 ?_ | refine z3 ?_ | refine idxB_at (by decide) rfl ?_ | refine atB_at (by decide) (by decide) ?_ | refine getB_lit _ rfl ?_ | refine z7 ?_); conv => whnf) | exact True.intro)))) ?_
  rintro k hk
  ((conv => whnf); (repeat (first | ((first | refine z1 ?_ | refine z2 ?_ | refine z3 ?_ | refine idxB_at (by decide) rfl ?_ | refine atB_at (by decide) (by decide) ?_ | refine getB_lit _ rfl ?_ | refine z7 ?_); conv => whnf) | exact True.intro)))
  refine br_dec (fun u => ?_) (fun u => ?_) <;> ((conv => whnf); (repeat (first | ((first | refine z1 ?_ | refine z2 ?_ | refine z3 ?_ | refine idxB_at (by decide) rfl ?_ | refine atB_at (by decide) (by decide) ?_ | refine getB_lit _ rfl ?_ | refine z7 ?_); conv => whnf) | exact True.intro)))
  · have u' : 2 * k + 1 < l.length := by omega
    have hj : l.length - 1 - k < (revK l k).length := by rw [revK_len]; omega
    have gj : (revK l k)[l.length - 1 - k]? = some ((l[l.length - 1 - k]?).getD 0) := by rw [revK_get l k (by omega), if_neg (by omega)]
    have gk : (revK l k)[k]? = some ((l[k]?).getD 0) := by rw [revK_get l k (by omega), if_neg (by omega)]
    have hnx := revK_next l u'
    generalize (l[l.length - 1 - k]?).getD 0 = x at *
    generalize (l[k]?).getD 0 = y at *
    refine atB_eq (l.length - 1 - k) (by omega) (by omega) ?_
    ((conv => whnf); (repeat (first | ((first | refine z1 ?_ | refine z2 ?_ | refine z3 ?_ | refine idxB_at (by decide) rfl ?_ | refine atB_at (by decide) (by decide) ?_ | refine getB_lit _ rfl ?_ | refine z7 ?_); conv => whnf) | exact True.intro)))
    refine getB gj ?_
    ((conv => whnf); (repeat (first | ((first | refine z1 ?_ | refine z2 ?_ | refine z3 ?_ | refine idxB_at (by decide) rfl ?_ | refine atB_at (by decide) (by decide) ?_ | refine getB_lit _ rfl ?_ | refine z7 ?_); conv => whnf) | exact True.intro)))
    refine atB (show k < l.length by omega) ?_
    ((conv => whnf); (repeat (first | ((first | refine z1 ?_ | refine z2 ?_ | refine z3 ?_ | refine idxB_at (by decide) rfl ?_ | refine atB_at (by decide) (by decide) ?_ | refine getB_lit _ rfl ?_ | refine z7 ?_); conv => whnf) | exact True.intro)))
    refine getB gk ?_
    ((conv => whnf); (repeat (first | ((first | refine z1 ?_ | refine z2 ?_ | refine z3 ?_ | refine idxB_at (by decide) rfl ?_ | refine atB_at (by decide) (by decide) ?_ | refine getB_lit _ rfl ?_ | refine z7 ?_); conv => whnf) | exact True.intro)))
    refine atB (show k < l.length by omega) ?_
    ((conv => whnf); (repeat (first | ((first | refine z1 ?_ | refine z2 ?_ | refine z3 ?_ | refine idxB_at (by decide) rfl ?_ | refine atB_at (by decide) (by decide) ?_ | refine getB_lit _ rfl ?_ | refine z7 ?_); conv => whnf) | exact True.intro)))
    refine getB_lit (intD y) (by simp [gk]) ?_
    ((conv => whnf); (repeat (first | ((first | refine z1 ?_ | refine z2 ?_ | refine z3 ?_ | refine idxB_at (by decide) rfl ?_ | refine atB_at (by decide) (by decide) ?_ | refine getB_lit _ rfl ?_ | refine z7 ?_); conv => whnf) | exact True.intro)))
    refine atB_eq (l.length - 1 - k) (by omega) (by omega) ?_
    ((conv => whnf); (repeat (first | ((first | refine z1 ?_ | refine z2 ?_ | refine z3 ?_ | refine idxB_at (by decide) rfl ?_ | refine atB_at (by decide) (by decide) ?_ | refine getB_lit _ rfl ?_ | refine z7 ?_); conv => whnf) | exact True.intro)))
    refine getB_lit (intD x) ?_ ?_
    · rw [List.getElem?_set_ne (by omega), List.getElem?_map, gj]; rfl
    ((conv => whnf); (repeat (first | ((first | refine z1 ?_ | refine z2 ?_ | refine z3 ?_ | refine idxB_at (by decide) rfl ?_ | refine atB_at (by decide) (by decide) ?_ | refine getB_lit _ rfl ?_ | refine z7 ?_); conv => whnf) | exact True.intro)))
    refine .mk [] (k + 1) (by omega) (by omega) ?_
    rw [← hnx]
    ((conv => whnf); (repeat (first | ((first | refine z1 ?_ | refine z2 ?_ | refine z3 ?_ | refine idxB_at (by decide) rfl ?_ | refine atB_at (by decide) (by decide) ?_ | refine getB_lit _ rfl ?_ | refine z7 ?_); conv => whnf) | exact True.intro)))
    exact cb (by rw [List.map_set, List.map_set]; rfl) (by ((conv => whnf); (repeat (first | ((first | refine z1 ?_ | refine z2 ?_ | refine z3 ?_ | refine idxB_at (by decide) rfl ?_ | refine atB_at (by decide) (by decide) ?_ | refine getB_lit _ rfl ?_ | refine z7 ?_); conv => whnf) | exact True.intro))))
  · refine .mk [] ?_
    ((conv => whnf); (repeat (first | ((first | refine z1 ?_ | refine z2 ?_ | refine z3 ?_ | refine idxB_at (by decide) rfl ?_ | refine atB_at (by decide) (by decide) ?_ | refine getB_lit _ rfl ?_ | refine z7 ?_); conv => whnf) | exact True.intro)))
    exact cb (by rw [revK_end l (by omega)]) (by ((conv => whnf); (repeat (first | ((first | refine z1 ?_ | refine z2 ?_ | refine z3 ?_ | refine idxB_at (by decide) rfl ?_ | refine atB_at (by decide) (by decide) ?_ | refine getB_lit _ rfl ?_ | refine z7 ?_); conv => whnf) | exact True.intro))))
def idle0 (n : Nat) : List Int := ((List.range n).map fun i : Nat => (i : Int)).reverse
def upTo (i : Nat) : List Int := (List.range i).map fun k : Nat => (k : Int)
def slt0 : Slt := ⟨0, 0, 0, 0⟩
theorem newArenaC (n : Nat) (h : 1 ≤ n ∧ n ≤ 64) : PSpec Tryz.prog 124 [V.int n] (.tup [.agg [sltsV (List.replicate n slt0), intsV (idle0 n), V.int 0], V.int 0]) := by
  refine pspec tab_ok mix Tryz.func124 (by kernel_rfl) rfl rfl ?_
  ((conv => whnf); (repeat (first | ((first | refine z1 ?_ | refine z2 ?_ | refine z3 ?_ | refine idxB_at (by decide) rfl ?_ | refine atB_at (by decide) (by decide) ?_ | refine getB_lit _ rfl ?_ | refine z7 ?_); conv => whnf) | exact True.intro)))
  rw [show decide ((n : Int) < 1) = false from decide_eq_false (by omega)]
  ((conv => whnf); (repeat (first | ((first | refine z1 ?_ | refine z2 ?_ | refine z3 ?_ | refine idxB_at (by decide) rfl ?_ | refine atB_at (by decide) (by decide) ?_ | refine getB_lit _ rfl ?_ | refine z7 ?_); conv => whnf) | exact True.intro)))
  rw [show decide ((64 : Int) < n) = false from decide_eq_false (by omega)]
  ((conv => whnf); (repeat (first | ((first | refine z1 ?_ | refine z2 ?_ | refine z3 ?_ | refine idxB_at (by decide) rfl ?_ | refine atB_at (by decide) (by decide) ?_ | refine getB_lit _ rfl ?_ | refine z7 ?_); conv => whnf) | exact True.intro)))
  refine makeB tab_ok n slt0.row _ rfl (.c _ rfl (.c _ rfl (.c _ rfl (.c _ rfl .nil)))) rfl rfl (by omega) rfl ?_
  ((conv => whnf); (repeat (first | ((first | refine z1 ?_ | refine z2 ?_ | refine z3 ?_ | refine idxB_at (by decide) rfl ?_ | refine atB_at (by decide) (by decide) ?_ | refine getB_lit _ rfl ?_ | refine z7 ?_); conv => whnf) | exact True.intro)))
  have hup : ∀ i, (upTo i).length = i := fun i => by simp [upTo]
  refine loopB tab_ok mix [2, 4, 16] [0, 576] (fun i : Nat => [(17, V.int i)]) (fun i => [(704, .rows 3 [[.ac 576 4 n, .ac 1 1 i, V.int 0]]), (1, .dat 1 ((upTo i).map intD))]) (fun i => i ≤ n) (fun i => n - i) [(1, 705)] 0 rfl (by omega) (by ((conv => whnf); (repeat (first | ((first | refine z1 ?_ | refine z2 ?_ | refine z3 ?_ | refine idxB_at (by decide) rfl ?_ | refine atB_at (by decide) (by decide) ?_ | refine getB_lit _ rfl ?_ | refine z7 ?_); conv => whnf) | exact True.intro)))) ?_
  rintro i hi
  ((conv => whnf); (repeat (first | ((first | refine z1 ?_ | refine z2 ?_ | refine z3 ?_ | refine idxB_at (by decide) rfl ?_ | refine atB_at (by decide) (by decide) ?_ | refine getB_lit _ rfl ?_ | refine z7 ?_); conv => whnf) | exact True.intro)))
  refine br_dec (fun u => ?_) (fun u => ?_) <;> ((conv => whnf); (repeat (first | ((first | refine z1 ?_ | refine z2 ?_ | refine z3 ?_ | refine idxB_at (by decide) rfl ?_ | refine atB_at (by decide) (by decide) ?_ | refine getB_lit _ rfl ?_ | refine z7 ?_); conv => whnf) | exact True.intro)))
  · have u' : i < n := by omega
    refine cb (by rw [List.length_map, hup]; exact ⟨rfl, by simp; omega⟩) ?_
    ((conv => whnf); (repeat (first | ((first | refine z1 ?_ | refine z2 ?_ | refine z3 ?_ | refine idxB_at (by decide) rfl ?_ | refine atB_at (by decide) (by decide) ?_ | refine getB_lit _ rfl ?_ | refine z7 ?_); conv => whnf) | exact True.intro)))
    refine .mk [(1, 1408)] (i + 1) (by omega) (by omega) ?_
    ((conv => whnf); (repeat (first | ((first | refine z1 ?_ | refine z2 ?_ | refine z3 ?_ | refine idxB_at (by decide) rfl ?_ | refine atB_at (by decide) (by decide) ?_ | refine getB_lit _ rfl ?_ | refine z7 ?_); conv => whnf) | exact True.intro)))
    exact cb (by simp [upTo, List.range_succ, intD]) (by ((conv => whnf); (repeat (first | ((first | refine z1 ?_ | refine z2 ?_ | refine z3 ?_ | refine idxB_at (by decide) rfl ?_ | refine atB_at (by decide) (by decide) ?_ | refine getB_lit _ rfl ?_ | refine z7 ?_); conv => whnf) | exact True.intro))))
  · obtain rfl : i = n := by omega
    refine callL (reverseC (upTo i) (by rw [hup]; omega)) [some 1] [] rfl ?_
    ((conv => whnf); (repeat (first | ((first | refine z1 ?_ | refine z2 ?_ | refine z3 ?_ | refine idxB_at (by decide) rfl ?_ | refine atB_at (by decide) (by decide) ?_ | refine getB_lit _ rfl ?_ | refine z7 ?_); conv => whnf) | exact True.intro)))
    refine cb (hup i).symm ?_
    ((conv => whnf); (repeat (first | ((first | refine z1 ?_ | refine z2 ?_ | refine z3 ?_ | refine idxB_at (by decide) rfl ?_ | refine atB_at (by decide) (by decide) ?_ | refine getB_lit _ rfl ?_ | refine z7 ?_); conv => whnf) | exact True.intro)))
    refine frzK ?_
    ((conv => whnf); (repeat (first | ((first | refine z1 ?_ | refine z2 ?_ | refine z3 ?_ | refine idxB_at (by decide) rfl ?_ | refine atB_at (by decide) (by decide) ?_ | refine getB_lit _ rfl ?_ | refine z7 ?_); conv => whnf) | exact True.intro)))
    exact cb ⟨by simp [hup], by rfl⟩ (by ((conv => whnf); (repeat (first | ((first | refine z1 ?_ | refine z2 ?_ | refine z3 ?_ | refine idxB_at (by decide) rfl ?_ | refine atB_at (by decide) (by decide) ?_ | refine getB_lit _ rfl ?_ | refine z7 ?_); conv => whnf) | exact True.intro))))
theorem newStoC (n : Nat) (h : 1 ≤ n ∧ n ≤ 64) : LSpec Tryz.prog 71 [V.int n] [] 0 (.p 0 10 0 0) (stoB ⟨mem0 (n + 1) 4, List.replicate n slt0, idle0 n, 0, ⟨0, [], [], [], 0, 0⟩⟩ 2) 5 := by
  refine lspec tab_ok mix Tryz.func71 (by kernel_rfl) (by rfl) (by rfl) (by rfl) (by rfl) ?_
  ((conv => whnf); (repeat (first | ((first | refine z1 ?_ | refine z2 ?_ | refine z3 ?_ | refine idxB_at (by decide) rfl ?_ | refine atB_at (by decide) (by decide) ?_ | refine getB_lit _ rfl ?_ | refine z7 ?_); conv => whnf) | exact True.intro)))
  refine callB (newArenaC n h) ?_
  ((conv => whnf); (repeat (first | ((first | refine z1 ?_ | refine z2 ?_ | refine z3 ?_ | refine idxB_at (by decide) rfl ?_ | refine atB_at (by decide) (by decide) ?_ | refine getB_lit _ rfl ?_ | refine z7 ?_); conv => whnf) | exact True.intro)))
  rw [show ((n : Int) + 1) = ((n + 1 : Nat) : Int) by omega, show V.c (Value.int IntKind.i64 4) = V.int ((4 : Nat) : Int) from rfl]
  refine dcallL (newMemC (n + 1) 4 (by omega) (by omega)) [] [] ?_
  ((conv => whnf); (repeat (first | ((first | refine z1 ?_ | refine z2 ?_ | refine z3 ?_ | refine idxB_at (by decide) rfl ?_ | refine atB_at (by decide) (by decide) ?_ | refine getB_lit _ rfl ?_ | refine z7 ?_); conv => whnf) | exact True.intro)))
  refine dcallB newLadC ?_
  ((conv => whnf); (repeat (first | ((first | refine z1 ?_ | refine z2 ?_ | refine z3 ?_ | refine idxB_at (by decide) rfl ?_ | refine atB_at (by decide) (by decide) ?_ | refine getB_lit _ rfl ?_ | refine z7 ?_); conv => whnf) | exact True.intro)))
  refine .mk [(0, 1152), (1, 896), (2, 897), (3, 898), (4, 899)] ?_
  ((conv => whnf); (repeat (first | ((first | refine z1 ?_ | refine z2 ?_ | refine z3 ?_ | refine idxB_at (by decide) rfl ?_ | refine atB_at (by decide) (by decide) ?_ | refine getB_lit _ rfl ?_ | refine z7 ?_); conv => whnf) | exact True.intro)))
end Go.Proofs.YtajgcanfngcfhaaGreat.Abs
