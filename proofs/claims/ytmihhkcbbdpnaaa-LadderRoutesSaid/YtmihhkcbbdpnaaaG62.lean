/- ladder.Valid. -/
import Derived.Test.YtmihhkcbbdpnaaaG61
namespace Go.Proofs.Ytmihhkcbbdpnaaa.Abs
open Go.Proofs
set_option maxRecDepth 10000
set_option linter.unusedSimpArgs false
set_option linter.unusedVariables false
theorem chain_at : ∀ {rs : List Rng} {b : Int} {k i : Nat} {r : Rng}, RChain b k rs → rs[i]? = some r → r.Good (bnd b (rs.take i)) (k + i) ∧ bnd b (rs.take (i + 1)) = min (bnd b (rs.take i)) (r.at r.cur)
  | a :: rs, b, k, 0, r, h, hr => by
    simp only [List.getElem?_cons_zero, Option.some.injEq] at hr
    subst hr
    exact ⟨h.1, rfl⟩
  | a :: rs, b, k, i + 1, r, h, hr => by
    obtain ⟨h1, h2⟩ := chain_at h.2 (by simpa using hr)
    refine ⟨?_, ?_⟩
    · rw [List.take_succ_cons, bnd, show k + (i + 1) = k + 1 + i by omega]; exact h1
    · rw [List.take_succ_cons, List.take_succ_cons, bnd, bnd]; exact h2
theorem at_nonneg {r : Rng} {b : Int} {k : Nat} (h : r.Good b k) : 0 ≤ r.at r.cur := by
  have := Int.mul_nonneg h.c.1 (show 0 ≤ r.width by have := h.w; omega)
  have := h.f
  unfold Rng.at; omega
theorem bnd_take : ∀ {rs : List Rng} {b : Int} {k : Nat} (i : Nat), RChain b k rs → 0 ≤ b → 0 ≤ bnd b (rs.take i)
  | [], b, k, i, _, h => by rw [List.take_nil]; exact h
  | r :: rs, b, k, 0, _, h => h
  | r :: rs, b, k, i + 1, hc, h => by
    rw [List.take_succ_cons, bnd]
    refine bnd_take i hc.2 ?_
    have := at_nonneg hc.1
    omega
theorem noOut {L : List Item} {lo hi : Int} (h : ∀ x ∈ L, lo ≤ x.time ∧ x.time ≤ hi) : (!(L.any (isOut lo hi))) = true := by
  rw [List.any_eq_false.2 fun x hx => ?_]
  · rfl
  · have := h x hx
    simp [isOut]; omega
theorem incE_of {L : List Item} (h : L.Pairwise Bf) : incE L = true := (incE_iff L).2 fun i x y h1 h2 => by
  obtain ⟨p1, e1⟩ := List.getElem?_eq_some_iff.1 h1
  obtain ⟨p2, e2⟩ := List.getElem?_eq_some_iff.1 h2
  have := List.pairwise_iff_getElem.1 h i (i + 1) p1 p2 (by omega)
  rw [e1, e2] at this
  exact this
theorem flat_mem_le {L : List (List Item)} {b : List Item} (h : b ∈ L) : b.length ≤ L.flatten.length := by
  obtain ⟨i, hi⟩ := List.getElem?_of_mem h
  obtain ⟨A, C, e⟩ := List.append_of_mem h
  rw [e]; simp; omega
theorem items_small {l : Lad} (hs : l.Small) {r : Rng} (hr : r ∈ l.rungs) : r.bkts.flatten.length < 1000000 := by
  have h1 := hs.len
  have h2 := flat_mem_le (List.mem_map.2 ⟨r, hr, rfl⟩ : r.items ∈ l.rungs.map Rng.items)
  unfold Lad.items Lad.rest at h1
  simp only [List.length_append] at h1
  rw [show r.items = r.bkts.flatten from rfl] at h2
  omega
theorem withinN (b : List Item) (lo hi : Int) (hl : b.length < 1000000) (h : (!(b.any (isOut lo hi))) = true) : PSpecN Try.prog 97 [itemsV b, V.int lo, V.int hi] (V.bool true) := by
  refine pspecN tab_ok mix Try.func97 (by kernel_rfl) rfl rfl ?_
  ((conv => whnf); (repeat (first | ((first | refine z1 ?_ | refine z2 ?_ | refine z3 ?_ | refine idxB_at (by decide) rfl ?_ | refine atB_at (by decide) (by decide) ?_ | refine getB_lit _ rfl ?_ | refine z7 ?_); conv => whnf) | trivial)))
  refine callL (containsOut b lo hi hl) [some 0, some 64] [] rfl ?_
  ((conv => whnf); (repeat (first | ((first | refine z1 ?_ | refine z2 ?_ | refine z3 ?_ | refine idxB_at (by decide) rfl ?_ | refine atB_at (by decide) (by decide) ?_ | refine getB_lit _ rfl ?_ | refine z7 ?_); conv => whnf) | trivial)))
  refine brK_mk (fun e => ?_) (fun e => ?_) <;> ((conv => whnf); (repeat (first | ((first | refine z1 ?_ | refine z2 ?_ | refine z3 ?_ | refine idxB_at (by decide) rfl ?_ | refine atB_at (by decide) (by decide) ?_ | refine getB_lit _ rfl ?_ | refine z7 ?_); conv => whnf) | trivial)))
  · rw [e] at h; cases h
  · exact .flat rfl rfl
theorem sortedN (b : List Item) (hl : b.length < 1073741824) : PSpecN Try.prog 102 [itemsV b] (itemsV (ssort cmpEv b)) := by
  refine pspecN tab_ok mix Try.func102 (by kernel_rfl) rfl rfl ?_
  ((conv => whnf); (repeat (first | ((first | refine z1 ?_ | refine z2 ?_ | refine z3 ?_ | refine idxB_at (by decide) rfl ?_ | refine atB_at (by decide) (by decide) ?_ | refine getB_lit _ rfl ?_ | refine z7 ?_); conv => whnf) | trivial)))
  refine callL (cloneItems b hl) [] [] rfl ?_
  ((conv => whnf); (repeat (first | ((first | refine z1 ?_ | refine z2 ?_ | refine z3 ?_ | refine idxB_at (by decide) rfl ?_ | refine atB_at (by decide) (by decide) ?_ | refine getB_lit _ rfl ?_ | refine z7 ?_); conv => whnf) | trivial)))
  refine callL (sortStableC b (by omega) (fun _ _ => trivial)) [some 128] [] rfl ?_
  ((conv => whnf); (repeat (first | ((first | refine z1 ?_ | refine z2 ?_ | refine z3 ?_ | refine idxB_at (by decide) rfl ?_ | refine atB_at (by decide) (by decide) ?_ | refine getB_lit _ rfl ?_ | refine z7 ?_); conv => whnf) | trivial)))
  exact .frz (by have := frzItems (n := 128) (h := [(128, .dat 3 ((ssort cmpEv b).map Item.row))]) (l := ssort cmpEv b) rfl; rw [ssort_len cmpEvC] at this; exact this)
theorem lValidC (l : Lad) (h : l.Good) (hs : l.Small) : PSpec Try.prog 53 [l.v] (V.bool true) := by
  have hts := h.ts
  have hnn := h.nonneg
  have hd := h.depth
  have htop : l.top.length < 1000000 := by have := hs.len; unfold Lad.items at this; simp at this; omega
  have hbot : l.bottom.length < 1000000 := by have := hs.len; unfold Lad.items at this; simp at this; omega
  refine pspec tab_ok mix Try.func53 (by kernel_rfl) rfl rfl ?_
  ((conv => whnf); (repeat (first | ((first | refine z1 ?_ | refine z2 ?_ | refine z3 ?_ | refine idxB_at (by decide) rfl ?_ | refine atB_at (by decide) (by decide) ?_ | refine getB_lit _ rfl ?_ | refine z7 ?_); conv => whnf) | exact True.intro)))
  rw [show decide (l.topStart < 0) = false from decide_eq_false (by omega)]
  ((conv => whnf); (repeat (first | ((first | refine z1 ?_ | refine z2 ?_ | refine z3 ?_ | refine idxB_at (by decide) rfl ?_ | refine atB_at (by decide) (by decide) ?_ | refine getB_lit _ rfl ?_ | refine z7 ?_); conv => whnf) | exact True.intro)))
  rw [show decide (1152921504606846977 < l.topStart) = false from decide_eq_false (by omega)]
  ((conv => whnf); (repeat (first | ((first | refine z1 ?_ | refine z2 ?_ | refine z3 ?_ | refine idxB_at (by decide) rfl ?_ | refine atB_at (by decide) (by decide) ?_ | refine getB_lit _ rfl ?_ | refine z7 ?_); conv => whnf) | exact True.intro)))
  rw [show decide ((4 : Int) < ((l.rungs.map Rng.row).length : Int)) = false from decide_eq_false (by simp; omega)]
  ((conv => whnf); (repeat (first | ((first | refine z1 ?_ | refine z2 ?_ | refine z3 ?_ | refine idxB_at (by decide) rfl ?_ | refine atB_at (by decide) (by decide) ?_ | refine getB_lit _ rfl ?_ | refine z7 ?_); conv => whnf) | exact True.intro)))
  refine br_dec (fun g => absurd g (by omega)) (fun _ => ?_)
  ((conv => whnf); (repeat (first | ((first | refine z1 ?_ | refine z2 ?_ | refine z3 ?_ | refine idxB_at (by decide) rfl ?_ | refine atB_at (by decide) (by decide) ?_ | refine getB_lit _ rfl ?_ | refine z7 ?_); conv => whnf) | exact True.intro)))
  refine callB (withinC l.top l.topStart 1152921504606846976 htop) ?_
  rw [noOut h.top]
  ((conv => whnf); (repeat (first | ((first | refine z1 ?_ | refine z2 ?_ | refine z3 ?_ | refine idxB_at (by decide) rfl ?_ | refine atB_at (by decide) (by decide) ?_ | refine getB_lit _ rfl ?_ | refine z7 ?_); conv => whnf) | exact True.intro)))
  have hbl := bnd_le l.rungs l.topStart
  refine loopB tab_ok mix [1, 37, 38] [0] (fun i : Nat => [(3, V.int (bnd l.topStart (l.rungs.take i))), (39, V.int i)]) (fun i => []) (fun i => i ≤ l.rungs.length) (fun i => l.rungs.length - i) [] 0 rfl (by omega) (by ((conv => whnf); (repeat (first | ((first | refine z1 ?_ | refine z2 ?_ | refine z3 ?_ | refine idxB_at (by decide) rfl ?_ | refine atB_at (by decide) (by decide) ?_ | refine getB_lit _ rfl ?_ | refine z7 ?_); conv => whnf) | exact True.intro)))) ?_
  rintro i hi
  have hb0 := bnd_take i h.chain hts.1
  have hb1 := bnd_le (l.rungs.take i) l.topStart
  ((conv => whnf); (repeat (first | ((first | refine z1 ?_ | refine z2 ?_ | refine z3 ?_ | refine idxB_at (by decide) rfl ?_ | refine atB_at (by decide) (by decide) ?_ | refine getB_lit _ rfl ?_ | refine z7 ?_); conv => whnf) | exact True.intro)))
  refine br_dec (fun u => ?_) (fun u => ?_) <;> ((conv => whnf); (repeat (first | ((first | refine z1 ?_ | refine z2 ?_ | refine z3 ?_ | refine idxB_at (by decide) rfl ?_ | refine atB_at (by decide) (by decide) ?_ | refine getB_lit _ rfl ?_ | refine z7 ?_); conv => whnf) | exact True.intro)))
  · have u' : i < l.rungs.length := by simpa using u
    obtain ⟨r, hr⟩ := get_lt u'
    obtain ⟨g1, g2⟩ := chain_at h.chain hr
    have hmem := List.mem_of_getElem? hr
    have hsr := items_small hs hmem
    refine idxB hr ?_
    ((conv => whnf); (repeat (first | ((first | refine z1 ?_ | refine z2 ?_ | refine z3 ?_ | refine idxB_at (by decide) rfl ?_ | refine atB_at (by decide) (by decide) ?_ | refine getB_lit _ rfl ?_ | refine z7 ?_); conv => whnf) | exact True.intro)))
    refine callB (rValidC r g1 fun L hL => ?_) ?_
    · have := hsr; unfold Rng.items at this
      have h2 := flat_mem_le hL
      omega
    ((conv => whnf); (repeat (first | ((first | refine z1 ?_ | refine z2 ?_ | refine z3 ?_ | refine idxB_at (by decide) rfl ?_ | refine atB_at (by decide) (by decide) ?_ | refine getB_lit _ rfl ?_ | refine z7 ?_); conv => whnf) | exact True.intro)))
    refine callB (endC r g1.fits) ?_
    ((conv => whnf); (repeat (first | ((first | refine z1 ?_ | refine z2 ?_ | refine z3 ?_ | refine idxB_at (by decide) rfl ?_ | refine atB_at (by decide) (by decide) ?_ | refine getB_lit _ rfl ?_ | refine z7 ?_); conv => whnf) | exact True.intro)))
    refine br_dec (fun g => absurd g (by have := g1.e; omega)) (fun _ => ?_)
    ((conv => whnf); (repeat (first | ((first | refine z1 ?_ | refine z2 ?_ | refine z3 ?_ | refine idxB_at (by decide) rfl ?_ | refine atB_at (by decide) (by decide) ?_ | refine getB_lit _ rfl ?_ | refine z7 ?_); conv => whnf) | exact True.intro)))
    refine callL (concatC r.bkts (by have := g1.len; omega) hsr) [] [] rfl ?_
    ((conv => whnf); (repeat (first | ((first | refine z1 ?_ | refine z2 ?_ | refine z3 ?_ | refine idxB_at (by decide) rfl ?_ | refine atB_at (by decide) (by decide) ?_ | refine getB_lit _ rfl ?_ | refine z7 ?_); conv => whnf) | exact True.intro)))
    refine callN (withinN r.bkts.flatten 0 (if 1152921504606846976 < bnd l.topStart (l.rungs.take i) - 1 then 1152921504606846976 else bnd l.topStart (l.rungs.take i) - 1) hsr (noOut fun x hx => by
      have := good_item g1 hx
      exact ⟨by omega, by split <;> omega⟩)) ?_
    ((conv => whnf); (repeat (first | ((first | refine z1 ?_ | refine z2 ?_ | refine z3 ?_ | refine idxB_at (by decide) rfl ?_ | refine atB_at (by decide) (by decide) ?_ | refine getB_lit _ rfl ?_ | refine z7 ?_); conv => whnf) | exact True.intro)))
    refine cb ⟨by rw [List.length_map], rfl⟩ ?_
    ((conv => whnf); (repeat (first | ((first | refine z1 ?_ | refine z2 ?_ | refine z3 ?_ | refine idxB_at (by decide) rfl ?_ | refine atB_at (by decide) (by decide) ?_ | refine getB_lit _ rfl ?_ | refine z7 ?_); conv => whnf) | exact True.intro)))
    refine callB (currentC r g1.fits) ?_
    ((conv => whnf); (repeat (first | ((first | refine z1 ?_ | refine z2 ?_ | refine z3 ?_ | refine idxB_at (by decide) rfl ?_ | refine atB_at (by decide) (by decide) ?_ | refine getB_lit _ rfl ?_ | refine z7 ?_); conv => whnf) | exact True.intro)))
    refine .mk [] (i + 1) (by omega) (by omega) ?_
    rw [g2]
    ((conv => whnf); (repeat (first | ((first | refine z1 ?_ | refine z2 ?_ | refine z3 ?_ | refine idxB_at (by decide) rfl ?_ | refine atB_at (by decide) (by decide) ?_ | refine getB_lit _ rfl ?_ | refine z7 ?_); conv => whnf) | exact True.intro)))
  · have e : i = l.rungs.length := by simp at u; omega
    subst e
    rw [List.take_of_length_le (Nat.le_refl _)] at *
    refine callB (withinC l.bottom 0 (if 1152921504606846976 < bnd l.topStart l.rungs - 1 then 1152921504606846976 else bnd l.topStart l.rungs - 1) hbot) ?_
    rw [noOut fun x hx => by
      have := h.bot x hx
      exact ⟨by omega, by split <;> omega⟩]
    ((conv => whnf); (repeat (first | ((first | refine z1 ?_ | refine z2 ?_ | refine z3 ?_ | refine idxB_at (by decide) rfl ?_ | refine atB_at (by decide) (by decide) ?_ | refine getB_lit _ rfl ?_ | refine z7 ?_); conv => whnf) | exact True.intro)))
    refine callB (increasingC l.bottom hbot) ?_
    rw [incE_of h.srt]
    ((conv => whnf); (repeat (first | ((first | refine z1 ?_ | refine z2 ?_ | refine z3 ?_ | refine idxB_at (by decide) rfl ?_ | refine atB_at (by decide) (by decide) ?_ | refine getB_lit _ rfl ?_ | refine z7 ?_); conv => whnf) | exact True.intro)))
    refine callL (allC l hs) [] [] rfl ?_
    ((conv => whnf); (repeat (first | ((first | refine z1 ?_ | refine z2 ?_ | refine z3 ?_ | refine idxB_at (by decide) rfl ?_ | refine atB_at (by decide) (by decide) ?_ | refine getB_lit _ rfl ?_ | refine z7 ?_); conv => whnf) | exact True.intro)))
    refine callN (sortedN l.items (by have := hs.len; omega)) ?_
    ((conv => whnf); (repeat (first | ((first | refine z1 ?_ | refine z2 ?_ | refine z3 ?_ | refine idxB_at (by decide) rfl ?_ | refine atB_at (by decide) (by decide) ?_ | refine getB_lit _ rfl ?_ | refine z7 ?_); conv => whnf) | exact True.intro)))
    refine callB (increasingC (ssort cmpEv l.items) (by rw [ssort_len cmpEvC]; exact hs.len)) ?_
    rw [incE_of (ssort_lt h.uniq)]
    ((conv => whnf); (repeat (first | ((first | refine z1 ?_ | refine z2 ?_ | refine z3 ?_ | refine idxB_at (by decide) rfl ?_ | refine atB_at (by decide) (by decide) ?_ | refine getB_lit _ rfl ?_ | refine z7 ?_); conv => whnf) | exact True.intro)))
    exact .same rfl
end Go.Proofs.Ytmihhkcbbdpnaaa.Abs
