/- All items of a ladder, as the reference lists them. -/
import Derived.Test.YtmihhkcbbdpnaaaG67
namespace Go.Proofs.Ytmihhkcbbdpnaaa.Abs
open Go.Proofs
set_option maxRecDepth 10000
set_option linter.unusedSimpArgs false
set_option linter.unusedVariables false
/-- the items of the first i rungs -/
def upR (l : Lad) (i : Nat) : List Item := l.top ++ (l.bottom ++ ((l.rungs.take i).map Rng.items).flatten)
def upB (l : Lad) (i : Nat) (r : Rng) (k : Nat) : List Item := upR l i ++ (r.bkts.take k).flatten
theorem upB_zero (l : Lad) (i : Nat) (r : Rng) : upB l i r 0 = upR l i := by simp [upB]
theorem upB_next (l : Lad) (i : Nat) (r : Rng) {k : Nat} {b : List Item} (h : r.bkts[k]? = some b) : upB l i r (k + 1) = upB l i r k ++ b := by
  simp [upB, List.take_add_one, h]
theorem upB_end (l : Lad) (i : Nat) {r : Rng} (h : l.rungs[i]? = some r) : upB l i r r.bkts.length = upR l (i + 1) := by
  simp [upB, upR, List.take_add_one, h, Rng.items]
theorem upR_zero (l : Lad) : upR l 0 = l.top ++ l.bottom := by simp [upR]
theorem upR_end (l : Lad) : upR l l.rungs.length = l.items := by simp [upR, Lad.items, Lad.rest]
theorem upR_le (l : Lad) (i : Nat) : (upR l i).length ≤ l.items.length := by
  have e : l.rest = ((l.rungs.take i).map Rng.items).flatten ++ ((l.rungs.drop i).map Rng.items).flatten := by
    rw [← List.flatten_append, ← List.map_append, List.take_append_drop]; rfl
  unfold upR Lad.items
  rw [e]
  simp only [List.length_append]; omega
theorem upB_le (l : Lad) {i : Nat} {r : Rng} (h : l.rungs[i]? = some r) (k : Nat) : (upB l i r k).length ≤ l.items.length := by
  have h1 := upR_le l (i + 1)
  have e : r.bkts.flatten = (r.bkts.take k).flatten ++ (r.bkts.drop k).flatten := by rw [← List.flatten_append, List.take_append_drop]
  rw [← upB_end l i h] at h1
  unfold upB at *
  rw [List.take_length, e] at h1
  simp only [List.length_append] at *; omega
theorem refItemsC (l : Lad) (hr : l.rungs.length < 1000000) (hb : ∀ r ∈ l.rungs, r.bkts.length < 1000000) (hlen : l.items.length < 1000000) : PSpec Try.prog 55 [l.v] (itemsV l.items) := by
  have e0 := upR_zero l
  have hup := upR_le l
  have h0 := hup 0
  rw [e0, List.length_append] at h0
  refine pspec tab_ok mix Try.func55 (by kernel_rfl) rfl rfl ?_
  ((conv => whnf); (repeat (first | ((first | refine z1 ?_ | refine z2 ?_ | refine z3 ?_ | refine idxB_at (by decide) rfl ?_ | refine atB_at (by decide) (by decide) ?_ | refine getB_lit _ rfl ?_ | refine z7 ?_); conv => whnf) | exact True.intro)))
  refine loopB tab_ok mix [1] [0] (fun i : Nat => [(3, .ac 1 3 (upR l i).length), (4, V.int i)]) (fun i => [(1, .dat 3 ((upR l i).map Item.row))]) (fun i => i ≤ l.rungs.length) (fun i => l.rungs.length - i) [(1, 640)] 0 rfl (by omega) (by rw [e0]; ((conv => whnf); (repeat (first | ((first | refine z1 ?_ | refine z2 ?_ | refine z3 ?_ | refine idxB_at (by decide) rfl ?_ | refine atB_at (by decide) (by decide) ?_ | refine getB_lit _ rfl ?_ | refine z7 ?_); conv => whnf) | exact True.intro)))) ?_
  rintro i hi
  ((conv => whnf); (repeat (first | ((first | refine z1 ?_ | refine z2 ?_ | refine z3 ?_ | refine idxB_at (by decide) rfl ?_ | refine atB_at (by decide) (by decide) ?_ | refine getB_lit _ rfl ?_ | refine z7 ?_); conv => whnf) | exact True.intro)))
  refine br_dec (fun u => ?_) (fun u => ?_) <;> ((conv => whnf); (repeat (first | ((first | refine z1 ?_ | refine z2 ?_ | refine z3 ?_ | refine idxB_at (by decide) rfl ?_ | refine atB_at (by decide) (by decide) ?_ | refine getB_lit _ rfl ?_ | refine z7 ?_); conv => whnf) | exact True.intro)))
  · have u' : i < l.rungs.length := by simpa using u
    obtain ⟨r, hr⟩ := get_lt u'
    refine loopB tab_ok mix [1, 4] [0] (fun k : Nat => [(3, .ac 1 3 (upB l i r k).length), (5, V.int k)]) (fun k => [(1, .dat 3 ((upB l i r k).map Item.row))]) (fun k => k ≤ r.bkts.length) (fun k => r.bkts.length - k) [] 0 rfl (by omega) (by rw [upB_zero]; ((conv => whnf); (repeat (first | ((first | refine z1 ?_ | refine z2 ?_ | refine z3 ?_ | refine idxB_at (by decide) rfl ?_ | refine atB_at (by decide) (by decide) ?_ | refine getB_lit _ rfl ?_ | refine z7 ?_); conv => whnf) | exact True.intro)))) ?_
    rintro k hk
    ((conv => whnf); (repeat (first | ((first | refine z1 ?_ | refine z2 ?_ | refine z3 ?_ | refine idxB_at (by decide) rfl ?_ | refine atB_at (by decide) (by decide) ?_ | refine getB_lit _ rfl ?_ | refine z7 ?_); conv => whnf) | exact True.intro)))
    refine idxB hr ?_
    ((conv => whnf); (repeat (first | ((first | refine z1 ?_ | refine z2 ?_ | refine z3 ?_ | refine idxB_at (by decide) rfl ?_ | refine atB_at (by decide) (by decide) ?_ | refine getB_lit _ rfl ?_ | refine z7 ?_); conv => whnf) | exact True.intro)))
    refine br_dec (fun v => ?_) (fun v => ?_) <;> ((conv => whnf); (repeat (first | ((first | refine z1 ?_ | refine z2 ?_ | refine z3 ?_ | refine idxB_at (by decide) rfl ?_ | refine atB_at (by decide) (by decide) ?_ | refine getB_lit _ rfl ?_ | refine z7 ?_); conv => whnf) | exact True.intro)))
    · have v' : k < r.bkts.length := by simpa using v
      obtain ⟨b, hbk⟩ := get_lt v'
      have hnx := upB_next l i r hbk
      have hle := upB_le l hr (k + 1)
      rw [hnx, List.length_append] at hle
      refine idxB hr ?_
      ((conv => whnf); (repeat (first | ((first | refine z1 ?_ | refine z2 ?_ | refine z3 ?_ | refine idxB_at (by decide) rfl ?_ | refine atB_at (by decide) (by decide) ?_ | refine getB_lit _ rfl ?_ | refine z7 ?_); conv => whnf) | exact True.intro)))
      refine idxB hbk ?_
      ((conv => whnf); (repeat (first | ((first | refine z1 ?_ | refine z2 ?_ | refine z3 ?_ | refine idxB_at (by decide) rfl ?_ | refine atB_at (by decide) (by decide) ?_ | refine getB_lit _ rfl ?_ | refine z7 ?_); conv => whnf) | exact True.intro)))
      have hrb := hb r (List.mem_of_getElem? hr)
      refine wrB (by omega) ?_
      ((conv => whnf); (repeat (first | ((first | refine z1 ?_ | refine z2 ?_ | refine z3 ?_ | refine idxB_at (by decide) rfl ?_ | refine atB_at (by decide) (by decide) ?_ | refine getB_lit _ rfl ?_ | refine z7 ?_); conv => whnf) | exact True.intro)))
      refine .mk [(1, 2432)] (k + 1) (by omega) (by omega) ?_
      rw [hnx]
      ((conv => whnf); (repeat (first | ((first | refine z1 ?_ | refine z2 ?_ | refine z3 ?_ | refine idxB_at (by decide) rfl ?_ | refine atB_at (by decide) (by decide) ?_ | refine getB_lit _ rfl ?_ | refine z7 ?_); conv => whnf) | exact True.intro)))
    · have e : k = r.bkts.length := by simp at v; omega
      subst e
      refine .mk [] (i + 1) (by omega) (by omega) ?_
      rw [← upB_end l i hr]
      ((conv => whnf); (repeat (first | ((first | refine z1 ?_ | refine z2 ?_ | refine z3 ?_ | refine idxB_at (by decide) rfl ?_ | refine atB_at (by decide) (by decide) ?_ | refine getB_lit _ rfl ?_ | refine z7 ?_); conv => whnf) | exact True.intro)))
  · have e : i = l.rungs.length := by simp at u; omega
    subst e
    rw [upR_end]
    refine frzK ?_
    ((conv => whnf); (repeat (first | ((first | refine z1 ?_ | refine z2 ?_ | refine z3 ?_ | refine idxB_at (by decide) rfl ?_ | refine atB_at (by decide) (by decide) ?_ | refine getB_lit _ rfl ?_ | refine z7 ?_); conv => whnf) | exact True.intro)))
end Go.Proofs.Ytmihhkcbbdpnaaa.Abs
