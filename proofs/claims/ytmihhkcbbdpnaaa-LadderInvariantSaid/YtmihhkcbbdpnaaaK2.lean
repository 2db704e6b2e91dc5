/- The reference of buckets and rungs. -/
import Derived.Test.YtmihhkcbbdpnaaaK1
import Derived.Test.YtmihhkcbbdpnaaaL3
namespace Go.Proofs.Ytmihhkcbbdpnaaa.Abs
open Go.Proofs
set_option maxRecDepth 10000
set_option linter.unusedSimpArgs false
set_option linter.unusedVariables false

theorem refStartC (f w i : Int) (hf : 0 ≤ f ∧ f ≤ 2305843009213693952) (hw : 1 ≤ w ∧ w ≤ 288230376151711744) (hi : 0 ≤ i ∧ i ≤ 8) : PSpec Try.prog 106 [V.int f, V.int w, V.int i] (V.int (f + i * w)) := by
  have hm := mul_small hi hw
  refine pspec tab_ok mix Try.func106 (by kernel_rfl) rfl rfl ?_
  ((conv => whnf); (repeat (first | ((first | refine z1 ?_ | refine z2 ?_ | refine z3 ?_ | refine idxB_at (by decide) rfl ?_ | refine atB_at (by decide) (by decide) ?_ | refine getB_lit _ rfl ?_ | refine z7 ?_); conv => whnf) | trivial)))
  exact .same rfl
theorem refIndexC (f w t : Int) (hf : 0 ≤ f ∧ f ≤ t ∧ t ≤ 4611686018427387904) (hw : 1 ≤ w) : PSpec Try.prog 142 [V.int f, V.int w, V.int t] (V.int ((t - f) / w)) := by
  refine pspec tab_ok mix Try.func142 (by kernel_rfl) rfl rfl ?_
  ((conv => whnf); (repeat (first | ((first | refine z1 ?_ | refine z2 ?_ | refine z3 ?_ | refine idxB_at (by decide) rfl ?_ | refine atB_at (by decide) (by decide) ?_ | refine getB_lit _ rfl ?_ | refine z7 ?_); conv => whnf) | trivial)))
  have hd : 0 ≤ (t - f) / w := Int.ediv_nonneg (by omega) (by omega)
  have hd2 : (t - f) / w ≤ t - f := Int.ediv_le_self _ (by omega)
  rw [Int.tdiv_eq_ediv_of_nonneg (by omega)]
  refine wrB (by omega) ?_
  ((conv => whnf); (repeat (first | ((first | refine z1 ?_ | refine z2 ?_ | refine z3 ?_ | refine idxB_at (by decide) rfl ?_ | refine atB_at (by decide) (by decide) ?_ | refine getB_lit _ rfl ?_ | refine z7 ?_); conv => whnf) | trivial)))
  exact .same rfl
theorem refWidthC (a b : Int) (ha : 0 ≤ a ∧ a ≤ b ∧ b ≤ 2305843009213693952) : PSpec Try.prog 165 [V.int a, V.int b] (V.int ((b - a + 8) / 8)) := by
  refine pspec tab_ok mix Try.func165 (by kernel_rfl) rfl rfl ?_
  ((conv => whnf); (repeat (first | ((first | refine z1 ?_ | refine z2 ?_ | refine z3 ?_ | refine idxB_at (by decide) rfl ?_ | refine atB_at (by decide) (by decide) ?_ | refine getB_lit _ rfl ?_ | refine z7 ?_); conv => whnf) | trivial)))
  rw [Int.tdiv_eq_ediv_of_nonneg (by omega)]
  refine wrB (by omega) ?_
  ((conv => whnf); (repeat (first | ((first | refine z1 ?_ | refine z2 ?_ | refine z3 ?_ | refine idxB_at (by decide) rfl ?_ | refine atB_at (by decide) (by decide) ?_ | refine getB_lit _ rfl ?_ | refine z7 ?_); conv => whnf) | trivial)))
  exact .same (by congr 2; omega)
theorem refNarrowC (w : Int) (hw : 0 ≤ w ∧ w ≤ 4611686018427387904) : PSpec Try.prog 167 [V.int w] (V.int ((w + 7) / 8)) := by
  refine pspec tab_ok mix Try.func167 (by kernel_rfl) rfl rfl ?_
  ((conv => whnf); (repeat (first | ((first | refine z1 ?_ | refine z2 ?_ | refine z3 ?_ | refine idxB_at (by decide) rfl ?_ | refine atB_at (by decide) (by decide) ?_ | refine getB_lit _ rfl ?_ | refine z7 ?_); conv => whnf) | trivial)))
  rw [Int.tdiv_eq_ediv_of_nonneg (by omega)]
  refine wrB (by omega) ?_
  ((conv => whnf); (repeat (first | ((first | refine z1 ?_ | refine z2 ?_ | refine z3 ?_ | refine idxB_at (by decide) rfl ?_ | refine atB_at (by decide) (by decide) ?_ | refine getB_lit _ rfl ?_ | refine z7 ?_); conv => whnf) | trivial)))
  exact .same rfl
theorem refCurrentC (r : Rng) (hr : r.Fits) : PSpec Try.prog 59 [r.v] (V.int (r.at r.cur)) := by
  refine pspec tab_ok mix Try.func59 (by kernel_rfl) rfl rfl ?_
  ((conv => whnf); (repeat (first | ((first | refine z1 ?_ | refine z2 ?_ | refine z3 ?_ | refine idxB_at (by decide) rfl ?_ | refine atB_at (by decide) (by decide) ?_ | refine getB_lit _ rfl ?_ | refine z7 ?_); conv => whnf) | trivial)))
  refine callB (refStartC r.from' r.width r.cur hr.f hr.w hr.c) ?_
  ((conv => whnf); (repeat (first | ((first | refine z1 ?_ | refine z2 ?_ | refine z3 ?_ | refine idxB_at (by decide) rfl ?_ | refine atB_at (by decide) (by decide) ?_ | refine getB_lit _ rfl ?_ | refine z7 ?_); conv => whnf) | trivial)))
  exact .same rfl
theorem refEndC (r : Rng) (hr : r.Fits) : PSpec Try.prog 141 [r.v] (V.int (r.at 8)) := by
  refine pspec tab_ok mix Try.func141 (by kernel_rfl) rfl rfl ?_
  ((conv => whnf); (repeat (first | ((first | refine z1 ?_ | refine z2 ?_ | refine z3 ?_ | refine idxB_at (by decide) rfl ?_ | refine atB_at (by decide) (by decide) ?_ | refine getB_lit _ rfl ?_ | refine z7 ?_); conv => whnf) | trivial)))
  refine callB (refStartC r.from' r.width 8 hr.f hr.w (by omega)) ?_
  ((conv => whnf); (repeat (first | ((first | refine z1 ?_ | refine z2 ?_ | refine z3 ?_ | refine idxB_at (by decide) rfl ?_ | refine atB_at (by decide) (by decide) ?_ | refine getB_lit _ rfl ?_ | refine z7 ?_); conv => whnf) | trivial)))
  exact .same rfl
theorem refNewRungC (f w : Int) : PSpec Try.prog 169 [V.int f, V.int w] (Rng.v ⟨f, w, 0, List.replicate 8 []⟩) := by
  refine pspec tab_ok mix Try.func169 (by kernel_rfl) rfl rfl ?_
  ((conv => whnf); (repeat (first | ((first | refine z1 ?_ | refine z2 ?_ | refine z3 ?_ | refine idxB_at (by decide) rfl ?_ | refine atB_at (by decide) (by decide) ?_ | refine getB_lit _ rfl ?_ | refine z7 ?_); conv => whnf) | trivial)))
  refine makeB tab_ok 8 [.lst 3 []] _ rfl (.sl 3 .nil) rfl rfl (by omega) rfl ?_
  ((conv => whnf); (repeat (first | ((first | refine z1 ?_ | refine z2 ?_ | refine z3 ?_ | refine idxB_at (by decide) rfl ?_ | refine atB_at (by decide) (by decide) ?_ | refine getB_lit _ rfl ?_ | refine z7 ?_); conv => whnf) | trivial)))
  refine frzK ?_
  ((conv => whnf); (repeat (first | ((first | refine z1 ?_ | refine z2 ?_ | refine z3 ?_ | refine idxB_at (by decide) rfl ?_ | refine atB_at (by decide) (by decide) ?_ | refine getB_lit _ rfl ?_ | refine z7 ?_); conv => whnf) | trivial)))
  refine cb ⟨rfl, rfl⟩ ?_
  ((conv => whnf); (repeat (first | ((first | refine z1 ?_ | refine z2 ?_ | refine z3 ?_ | refine idxB_at (by decide) rfl ?_ | refine atB_at (by decide) (by decide) ?_ | refine getB_lit _ rfl ?_ | refine z7 ?_); conv => whnf) | trivial)))
theorem refWithC (r : Rng) (i : Nat) (b : List Item) (hi : i < r.bkts.length) (hl : r.bkts.length < 1073741824) : LSpec Try.prog 143 [r.v, V.int i, itemsV b] [] 0 (Rng.v { r with bkts := r.bkts.set i b }) [] 0 := by
  refine lspec tab_ok mix Try.func143 (by kernel_rfl) (by rfl) (by rfl) (by rfl) (by rfl) ?_
  ((conv => whnf); (repeat (first | ((first | refine z1 ?_ | refine z2 ?_ | refine z3 ?_ | refine idxB_at (by decide) rfl ?_ | refine atB_at (by decide) (by decide) ?_ | refine getB_lit _ rfl ?_ | refine z7 ?_); conv => whnf) | trivial)))
  refine atB (by simpa using hi) ?_
  ((conv => whnf); (repeat (first | ((first | refine z1 ?_ | refine z2 ?_ | refine z3 ?_ | refine idxB_at (by decide) rfl ?_ | refine atB_at (by decide) (by decide) ?_ | refine getB_lit _ rfl ?_ | refine z7 ?_); conv => whnf) | trivial)))
  refine .mk (bktRow r.bkts[i]) (by simp [hi]) ?_
  ((conv => whnf); (repeat (first | ((first | refine z1 ?_ | refine z2 ?_ | refine z3 ?_ | refine idxB_at (by decide) rfl ?_ | refine atB_at (by decide) (by decide) ?_ | refine getB_lit _ rfl ?_ | refine z7 ?_); conv => whnf) | trivial)))
  refine .mk [] ?_
  ((conv => whnf); (repeat (first | ((first | refine z1 ?_ | refine z2 ?_ | refine z3 ?_ | refine idxB_at (by decide) rfl ?_ | refine atB_at (by decide) (by decide) ?_ | refine getB_lit _ rfl ?_ | refine z7 ?_); conv => whnf) | trivial)))
  all_goals exact cb ⟨by simp, by rw [List.map_set]; rfl⟩ (by ((conv => whnf); (repeat (first | ((first | refine z1 ?_ | refine z2 ?_ | refine z3 ?_ | refine idxB_at (by decide) rfl ?_ | refine atB_at (by decide) (by decide) ?_ | refine getB_lit _ rfl ?_ | refine z7 ?_); conv => whnf) | trivial))))
theorem refWithP (r : Rng) (i : Nat) (b : List Item) (hi : i < r.bkts.length) (hl : r.bkts.length < 1073741824) : PSpec Try.prog 143 [r.v, V.int i, itemsV b] (Rng.v { r with bkts := r.bkts.set i b }) := by
  refine pspec tab_ok mix Try.func143 (by kernel_rfl) rfl rfl ?_
  ((conv => whnf); (repeat (first | ((first | refine z1 ?_ | refine z2 ?_ | refine z3 ?_ | refine idxB_at (by decide) rfl ?_ | refine atB_at (by decide) (by decide) ?_ | refine getB_lit _ rfl ?_ | refine z7 ?_); conv => whnf) | trivial)))
  refine atB (by simpa using hi) ?_
  ((conv => whnf); (repeat (first | ((first | refine z1 ?_ | refine z2 ?_ | refine z3 ?_ | refine idxB_at (by decide) rfl ?_ | refine atB_at (by decide) (by decide) ?_ | refine getB_lit _ rfl ?_ | refine z7 ?_); conv => whnf) | trivial)))
  refine .mk (bktRow r.bkts[i]) (by simp [hi]) ?_
  ((conv => whnf); (repeat (first | ((first | refine z1 ?_ | refine z2 ?_ | refine z3 ?_ | refine idxB_at (by decide) rfl ?_ | refine atB_at (by decide) (by decide) ?_ | refine getB_lit _ rfl ?_ | refine z7 ?_); conv => whnf) | trivial)))
  refine frzK ?_
  ((conv => whnf); (repeat (first | ((first | refine z1 ?_ | refine z2 ?_ | refine z3 ?_ | refine idxB_at (by decide) rfl ?_ | refine atB_at (by decide) (by decide) ?_ | refine getB_lit _ rfl ?_ | refine z7 ?_); conv => whnf) | trivial)))
  all_goals exact cb ⟨by simp, by rw [List.map_set]; rfl⟩ (by ((conv => whnf); (repeat (first | ((first | refine z1 ?_ | refine z2 ?_ | refine z3 ?_ | refine idxB_at (by decide) rfl ?_ | refine atB_at (by decide) (by decide) ?_ | refine getB_lit _ rfl ?_ | refine z7 ?_); conv => whnf) | trivial))))
theorem refPutC (r : Rng) (it : Item) (hr : r.Fits) (hb : r.bkts.length = 8) (hl : ∀ b ∈ r.bkts, b.length < 1000000) : PSpec Try.prog 116 [r.v, it.v] (.tup [(putR r it).1.v, V.bool (putR r it).2]) := by
  refine pspec tab_ok mix Try.func116 (by kernel_rfl) rfl rfl ?_
  ((conv => whnf); (repeat (first | ((first | refine z1 ?_ | refine z2 ?_ | refine z3 ?_ | refine idxB_at (by decide) rfl ?_ | refine atB_at (by decide) (by decide) ?_ | refine getB_lit _ rfl ?_ | refine z7 ?_); conv => whnf) | trivial)))
  refine dcallB (refCurrentC r hr) ?_
  ((conv => whnf); (repeat (first | ((first | refine z1 ?_ | refine z2 ?_ | refine z3 ?_ | refine idxB_at (by decide) rfl ?_ | refine atB_at (by decide) (by decide) ?_ | refine getB_lit _ rfl ?_ | refine z7 ?_); conv => whnf) | trivial)))
  refine br_dec (fun g1 => ?_) (fun g1 => ?_) <;> ((conv => whnf); (repeat (first | ((first | refine z1 ?_ | refine z2 ?_ | refine z3 ?_ | refine idxB_at (by decide) rfl ?_ | refine atB_at (by decide) (by decide) ?_ | refine getB_lit _ rfl ?_ | refine z7 ?_); conv => whnf) | trivial)))
  · refine frzK ?_
    rw [putR, if_pos (.inl g1)]
    ((conv => whnf); (repeat (first | ((first | refine z1 ?_ | refine z2 ?_ | refine z3 ?_ | refine idxB_at (by decide) rfl ?_ | refine atB_at (by decide) (by decide) ?_ | refine getB_lit _ rfl ?_ | refine z7 ?_); conv => whnf) | trivial)))
  refine dcallB (refEndC r hr) ?_
  ((conv => whnf); (repeat (first | ((first | refine z1 ?_ | refine z2 ?_ | refine z3 ?_ | refine idxB_at (by decide) rfl ?_ | refine atB_at (by decide) (by decide) ?_ | refine getB_lit _ rfl ?_ | refine z7 ?_); conv => whnf) | trivial)))
  refine br_dec (fun g2 => ?_) (fun g2 => ?_) <;> ((conv => whnf); (repeat (first | ((first | refine z1 ?_ | refine z2 ?_ | refine z3 ?_ | refine idxB_at (by decide) rfl ?_ | refine atB_at (by decide) (by decide) ?_ | refine getB_lit _ rfl ?_ | refine z7 ?_); conv => whnf) | trivial)))
  · refine frzK ?_
    rw [putR, if_pos (.inr g2)]
    ((conv => whnf); (repeat (first | ((first | refine z1 ?_ | refine z2 ?_ | refine z3 ?_ | refine idxB_at (by decide) rfl ?_ | refine atB_at (by decide) (by decide) ?_ | refine getB_lit _ rfl ?_ | refine z7 ?_); conv => whnf) | trivial)))
  have g3 : ¬ (it.time < r.at r.cur ∨ r.at 8 ≤ it.time) := by omega
  obtain ⟨q1, q2, q3, q4⟩ := put_idx hr hb g3
  refine callB (refIndexC r.from' r.width it.time ⟨hr.f.1, q1, q2⟩ hr.w.1) ?_
  rw [putR, if_neg g3]
  dsimp only
  obtain ⟨i, hi⟩ : ∃ i : Nat, (it.time - r.from') / r.width = (i : Int) := ⟨_, (Int.toNat_of_nonneg q3).symm⟩
  rw [hi] at q4 ⊢
  rw [Int.toNat_natCast] at q4 ⊢
  obtain ⟨b, hbi⟩ := get_lt q4
  have hbl := hl b (List.mem_of_getElem? hbi)
  rw [hbi, Option.getD_some]
  ((conv => whnf); (repeat (first | ((first | refine z1 ?_ | refine z2 ?_ | refine z3 ?_ | refine idxB_at (by decide) rfl ?_ | refine atB_at (by decide) (by decide) ?_ | refine getB_lit _ rfl ?_ | refine z7 ?_); conv => whnf) | trivial)))
  refine idxB hbi ?_
  ((conv => whnf); (repeat (first | ((first | refine z1 ?_ | refine z2 ?_ | refine z3 ?_ | refine idxB_at (by decide) rfl ?_ | refine atB_at (by decide) (by decide) ?_ | refine getB_lit _ rfl ?_ | refine z7 ?_); conv => whnf) | trivial)))
  refine callL (refWithC r i (b ++ [it]) q4 (by omega)) [] [2240] rfl ?_
  ((conv => whnf); (repeat (first | ((first | refine z1 ?_ | refine z2 ?_ | refine z3 ?_ | refine idxB_at (by decide) rfl ?_ | refine atB_at (by decide) (by decide) ?_ | refine getB_lit _ rfl ?_ | refine z7 ?_); conv => whnf) | trivial)))
  refine cb ⟨by simp, by simp [Item.row]⟩ ?_
  ((conv => whnf); (repeat (first | ((first | refine z1 ?_ | refine z2 ?_ | refine z3 ?_ | refine idxB_at (by decide) rfl ?_ | refine atB_at (by decide) (by decide) ?_ | refine getB_lit _ rfl ?_ | refine z7 ?_); conv => whnf) | trivial)))
  refine frzK ?_
  ((conv => whnf); (repeat (first | ((first | refine z1 ?_ | refine z2 ?_ | refine z3 ?_ | refine idxB_at (by decide) rfl ?_ | refine atB_at (by decide) (by decide) ?_ | refine getB_lit _ rfl ?_ | refine z7 ?_); conv => whnf) | trivial)))
theorem refNextC (r : Rng) (hr : r.Fits) (hb : r.bkts.length = 8) : PSpec Try.prog 166 [r.v] (.tup [(nextR r).1.v, itemsV (nextR r).2.1, V.int (nextR r).2.2.1, V.bool (nextR r).2.2.2]) := by
  refine pspec tab_ok mix Try.func166 (by kernel_rfl) rfl rfl ?_
  ((conv => whnf); (repeat (first | ((first | refine z1 ?_ | refine z2 ?_ | refine z3 ?_ | refine idxB_at (by decide) rfl ?_ | refine atB_at (by decide) (by decide) ?_ | refine getB_lit _ rfl ?_ | refine z7 ?_); conv => whnf) | trivial)))
  refine loopB tab_ok mix [1, 2] [0, 64] (fun i : Nat => [(6, V.int i)]) (fun i => []) (fun i => i ≤ r.bkts.length ∧ ∀ x ∈ r.bkts.take i, ¬ 0 < x.length) (fun i => r.bkts.length - i) [] 0 rfl ⟨by omega, by simp⟩ (by ((conv => whnf); (repeat (first | ((first | refine z1 ?_ | refine z2 ?_ | refine z3 ?_ | refine idxB_at (by decide) rfl ?_ | refine atB_at (by decide) (by decide) ?_ | refine getB_lit _ rfl ?_ | refine z7 ?_); conv => whnf) | trivial)))) ?_
  rintro i ⟨h1, h2⟩
  ((conv => whnf); (repeat (first | ((first | refine z1 ?_ | refine z2 ?_ | refine z3 ?_ | refine idxB_at (by decide) rfl ?_ | refine atB_at (by decide) (by decide) ?_ | refine getB_lit _ rfl ?_ | refine z7 ?_); conv => whnf) | trivial)))
  refine br_dec (fun g => ?_) (fun g => ?_) <;> ((conv => whnf); (repeat (first | ((first | refine z1 ?_ | refine z2 ?_ | refine z3 ?_ | refine idxB_at (by decide) rfl ?_ | refine atB_at (by decide) (by decide) ?_ | refine getB_lit _ rfl ?_ | refine z7 ?_); conv => whnf) | trivial)))
  · simp at g
    obtain ⟨x, hx⟩ := get_lt g
    refine idxB hx ?_
    ((conv => whnf); (repeat (first | ((first | refine z1 ?_ | refine z2 ?_ | refine z3 ?_ | refine idxB_at (by decide) rfl ?_ | refine atB_at (by decide) (by decide) ?_ | refine getB_lit _ rfl ?_ | refine z7 ?_); conv => whnf) | trivial)))
    refine br_dec (fun e => ?_) (fun e => ?_) <;> ((conv => whnf); (repeat (first | ((first | refine z1 ?_ | refine z2 ?_ | refine z3 ?_ | refine idxB_at (by decide) rfl ?_ | refine atB_at (by decide) (by decide) ?_ | refine getB_lit _ rfl ?_ | refine z7 ?_); conv => whnf) | trivial)))
    · simp at e
      have hfi : r.bkts.findIdx? (fun b => decide (0 < b.length)) = some i := by
        rw [List.findIdx?_eq_some_iff_getElem]
        obtain ⟨hl', hx'⟩ := List.getElem?_eq_some_iff.1 hx
        refine ⟨hl', by rw [hx']; simpa using e, fun j hj => ?_⟩
        have := h2 r.bkts[j] (List.mem_take_iff_getElem.2 ⟨j, by omega, rfl⟩)
        simpa using this
      have en : nextR r = (⟨r.from', r.width, i + 1, r.bkts.set i []⟩, x, r.at i, true) := by unfold nextR; rw [hfi]; simp [hx]
      rw [en]
      refine idxB hx ?_
      ((conv => whnf); (repeat (first | ((first | refine z1 ?_ | refine z2 ?_ | refine z3 ?_ | refine idxB_at (by decide) rfl ?_ | refine atB_at (by decide) (by decide) ?_ | refine getB_lit _ rfl ?_ | refine z7 ?_); conv => whnf) | trivial)))
      refine callC (refWithP r i [] g (by omega)) ?_
      ((conv => whnf); (repeat (first | ((first | refine z1 ?_ | refine z2 ?_ | refine z3 ?_ | refine idxB_at (by decide) rfl ?_ | refine atB_at (by decide) (by decide) ?_ | refine getB_lit _ rfl ?_ | refine z7 ?_); conv => whnf) | trivial)))
      refine dcallB (refStartC r.from' r.width i hr.f hr.w (by omega)) ?_
      ((conv => whnf); (repeat (first | ((first | refine z1 ?_ | refine z2 ?_ | refine z3 ?_ | refine idxB_at (by decide) rfl ?_ | refine atB_at (by decide) (by decide) ?_ | refine getB_lit _ rfl ?_ | refine z7 ?_); conv => whnf) | trivial)))
      refine frzK ?_
      ((conv => whnf); (repeat (first | ((first | refine z1 ?_ | refine z2 ?_ | refine z3 ?_ | refine idxB_at (by decide) rfl ?_ | refine atB_at (by decide) (by decide) ?_ | refine getB_lit _ rfl ?_ | refine z7 ?_); conv => whnf) | trivial)))
    · simp at e
      refine .mk [] (i + 1) ⟨by omega, ?_⟩ (by omega) ?_
      · rw [List.take_add_one, hx]
        intro y hy
        rcases List.mem_append.1 hy with hy | hy
        · exact h2 y hy
        · simp at hy; subst hy; simp [e]
      · ((conv => whnf); (repeat (first | ((first | refine z1 ?_ | refine z2 ?_ | refine z3 ?_ | refine idxB_at (by decide) rfl ?_ | refine atB_at (by decide) (by decide) ?_ | refine getB_lit _ rfl ?_ | refine z7 ?_); conv => whnf) | trivial)))
  · have e : i = r.bkts.length := by simp at g; omega
    subst e
    rw [List.take_length] at h2
    have hfi : r.bkts.findIdx? (fun b => decide (0 < b.length)) = none := List.findIdx?_eq_none_iff.2 fun x hx => by simpa using h2 x hx
    have en : nextR r = (⟨r.from', r.width, 8, r.bkts⟩, [], 0, false) := by unfold nextR; rw [hfi]
    rw [en]
    refine frzK ?_
    ((conv => whnf); (repeat (first | ((first | refine z1 ?_ | refine z2 ?_ | refine z3 ?_ | refine idxB_at (by decide) rfl ?_ | refine atB_at (by decide) (by decide) ?_ | refine getB_lit _ rfl ?_ | refine z7 ?_); conv => whnf) | trivial)))
end Go.Proofs.Ytmihhkcbbdpnaaa.Abs
/- The reference of the ladder: order, placing, sorting, sameness. -/
namespace Go.Proofs.Ytmihhkcbbdpnaaa.Abs
open Go.Proofs
set_option maxRecDepth 10000
set_option linter.unusedSimpArgs false
set_option linter.unusedVariables false

theorem br_neqI {p X Y : Prop} [Decidable p] {z : Bool} (hz : z = decide p) (h1 : ¬ p → X) (h2 : p → Y) : brK (!z) X Y := by subst hz; exact br_ndec h1 h2
theorem br_eqI {p X Y : Prop} [Decidable p] {z : Bool} (hz : z = decide p) (h1 : p → X) (h2 : ¬ p → Y) : brK z X Y := by subst hz; exact br_dec h1 h2
theorem refCompareI (a b : Int) : PSpec Try.prog 105 [V.int a, V.int b] (V.int (cmpI a b)) := by
  refine pspec tab_ok mix Try.func105 (by kernel_rfl) rfl rfl ?_
  ((conv => whnf); (repeat (first | ((first | refine z1 ?_ | refine z2 ?_ | refine z3 ?_ | refine idxB_at (by decide) rfl ?_ | refine atB_at (by decide) (by decide) ?_ | refine getB_lit _ rfl ?_ | refine z7 ?_); conv => whnf) | trivial)))
  refine br_dec (fun h => ?_) (fun h => ?_) <;> ((conv => whnf); (repeat (first | ((first | refine z1 ?_ | refine z2 ?_ | refine z3 ?_ | refine idxB_at (by decide) rfl ?_ | refine atB_at (by decide) (by decide) ?_ | refine getB_lit _ rfl ?_ | refine z7 ?_); conv => whnf) | trivial)))
  · exact .same (by simp [cmpI, h])
  · refine br_dec (fun g => ?_) (fun g => ?_) <;> ((conv => whnf); (repeat (first | ((first | refine z1 ?_ | refine z2 ?_ | refine z3 ?_ | refine idxB_at (by decide) rfl ?_ | refine atB_at (by decide) (by decide) ?_ | refine getB_lit _ rfl ?_ | refine z7 ?_); conv => whnf) | trivial)))
    · exact .same (by simp [cmpI, h, g])
    · exact .same (by simp [cmpI, h, g])
theorem cmpI_zero (a b : Int) : cmpI a b = 0 ↔ a = b := by
  rcases cmpI_cases a b with h | h | h <;> simp [h.1] <;> omega
theorem refCompareItems (x y : Item) : PSpec Try.prog 58 [x.v, y.v] (V.int (cmpItem x y)) := by
  refine pspec tab_ok mix Try.func58 (by kernel_rfl) rfl rfl ?_
  ((conv => whnf); (repeat (first | ((first | refine z1 ?_ | refine z2 ?_ | refine z3 ?_ | refine idxB_at (by decide) rfl ?_ | refine atB_at (by decide) (by decide) ?_ | refine getB_lit _ rfl ?_ | refine z7 ?_); conv => whnf) | trivial)))
  refine br_ndec (fun e => ?_) (fun e => ?_) <;> ((conv => whnf); (repeat (first | ((first | refine z1 ?_ | refine z2 ?_ | refine z3 ?_ | refine idxB_at (by decide) rfl ?_ | refine atB_at (by decide) (by decide) ?_ | refine getB_lit _ rfl ?_ | refine z7 ?_); conv => whnf) | trivial)))
  · refine callB (refCompareI _ _) ?_
    ((conv => whnf); (repeat (first | ((first | refine z1 ?_ | refine z2 ?_ | refine z3 ?_ | refine idxB_at (by decide) rfl ?_ | refine atB_at (by decide) (by decide) ?_ | refine getB_lit _ rfl ?_ | refine z7 ?_); conv => whnf) | trivial)))
    exact .same (by simp [cmpItem, or2, cmpI_zero, e])
  · refine callB (refCompareI _ _) ?_
    ((conv => whnf); (repeat (first | ((first | refine z1 ?_ | refine z2 ?_ | refine z3 ?_ | refine idxB_at (by decide) rfl ?_ | refine atB_at (by decide) (by decide) ?_ | refine getB_lit _ rfl ?_ | refine z7 ?_); conv => whnf) | trivial)))
    exact .same (by simp [cmpItem, or2, cmpI_zero, e])
def placeI (l : List Item) (it : Item) : List Item := mrg cmpEv l [it]
theorem place_at {l : List Item} {it : Item} {k : Nat} (hs : Srt cmpEv l) (hk : k ≤ l.length) (h1 : ∀ x ∈ l.drop k, 0 < cmpItem x it) (h2 : ∀ x, 0 < k → l[k - 1]? = some x → ¬ 0 < cmpItem x it) : placeI l it = l.take k ++ it :: l.drop k := by
  refine mrg_last (c := cmpEv) k (fun x hx => ?_) (fun x hx => ?_)
  · rcases Nat.eq_zero_or_pos k with h0 | h0
    · subst h0; simp at hx
    · obtain ⟨y, hy⟩ := get_lt (show k - 1 < l.length by omega)
      have h3 := h2 y h0 hy
      have h4 : le cmpEv x y := srt_take hs leEv_refl hy x (by rw [show k - 1 + 1 = k by omega]; exact hx)
      have h5 : le cmpEv y it := by rw [cmpEvC.le_iff]; show cmpItem y it ≤ 0; omega
      exact cmpEvC.le_trans h4 h5
  · have := h1 x hx
    have h2 := cmpItem_anti x it
    show cmpItem it x < 0; omega
theorem placeC (l : List Item) (it : Item) (hl : l.length < 1000000) (hs : Srt cmpEv l) : PSpec Try.prog 103 [itemsV l, it.v] (itemsV (placeI l it)) := by
  refine pspec tab_ok mix Try.func103 (by kernel_rfl) rfl rfl ?_
  ((conv => whnf); (repeat (first | ((first | refine z1 ?_ | refine z2 ?_ | refine z3 ?_ | refine idxB_at (by decide) rfl ?_ | refine atB_at (by decide) (by decide) ?_ | refine getB_lit _ rfl ?_ | refine z7 ?_); conv => whnf) | trivial)))
  refine loopB tab_ok mix [0, 3] [0] (fun k : Nat => [(5, V.int k)]) (fun k => []) (fun k => k ≤ l.length ∧ ∀ x ∈ l.drop k, 0 < cmpItem x it) (fun k => k) [] l.length rfl ⟨by omega, by simp⟩ (by ((conv => whnf); (repeat (first | ((first | refine z1 ?_ | refine z2 ?_ | refine z3 ?_ | refine idxB_at (by decide) rfl ?_ | refine atB_at (by decide) (by decide) ?_ | refine getB_lit _ rfl ?_ | refine z7 ?_); conv => whnf) | trivial)))) ?_
  rintro k ⟨h1, h2⟩
  have fin : (∀ x, 0 < k → l[k - 1]? = some x → ¬ 0 < cmpItem x it) → placeI l it = l.take k ++ it :: l.drop k := fun h3 => place_at hs h1 h2 h3
  ((conv => whnf); (repeat (first | ((first | refine z1 ?_ | refine z2 ?_ | refine z3 ?_ | refine idxB_at (by decide) rfl ?_ | refine atB_at (by decide) (by decide) ?_ | refine getB_lit _ rfl ?_ | refine z7 ?_); conv => whnf) | trivial)))
  refine br_dec (fun g => ?_) (fun g => ?_) <;> ((conv => whnf); (repeat (first | ((first | refine z1 ?_ | refine z2 ?_ | refine z3 ?_ | refine idxB_at (by decide) rfl ?_ | refine atB_at (by decide) (by decide) ?_ | refine getB_lit _ rfl ?_ | refine z7 ?_); conv => whnf) | trivial)))
  · obtain ⟨q, rfl⟩ : ∃ q, k = q + 1 := ⟨k - 1, by omega⟩
    obtain ⟨x, hx⟩ := get_lt (show q < l.length by omega)
    refine idxB_eq q x (by omega) hx ?_
    ((conv => whnf); (repeat (first | ((first | refine z1 ?_ | refine z2 ?_ | refine z3 ?_ | refine idxB_at (by decide) rfl ?_ | refine atB_at (by decide) (by decide) ?_ | refine getB_lit _ rfl ?_ | refine z7 ?_); conv => whnf) | trivial)))
    refine dcallB (refCompareItems x it) ?_
    ((conv => whnf); (repeat (first | ((first | refine z1 ?_ | refine z2 ?_ | refine z3 ?_ | refine idxB_at (by decide) rfl ?_ | refine atB_at (by decide) (by decide) ?_ | refine getB_lit _ rfl ?_ | refine z7 ?_); conv => whnf) | trivial)))
    refine br_dec (fun e => ?_) (fun e => ?_) <;> ((conv => whnf); (repeat (first | ((first | refine z1 ?_ | refine z2 ?_ | refine z3 ?_ | refine idxB_at (by decide) rfl ?_ | refine atB_at (by decide) (by decide) ?_ | refine getB_lit _ rfl ?_ | refine z7 ?_); conv => whnf) | trivial)))
    · refine .mk [] q ⟨by omega, fun y hy => ?_⟩ (by omega) ?_
      · rw [drop_get hx] at hy
        rcases List.mem_cons.1 hy with rfl | hy
        · exact e
        · exact h2 y hy
      · ((conv => whnf); (repeat (first | ((first | refine z1 ?_ | refine z2 ?_ | refine z3 ?_ | refine idxB_at (by decide) rfl ?_ | refine atB_at (by decide) (by decide) ?_ | refine getB_lit _ rfl ?_ | refine z7 ?_); conv => whnf) | trivial)))
    · rw [fin fun y _ hy => by rw [show q + 1 - 1 = q by omega, hx] at hy; cases hy; exact e]
      refine slB 0 (q + 1) rfl rfl (by simp; omega) ?_
      ((conv => whnf); (repeat (first | ((first | refine z1 ?_ | refine z2 ?_ | refine z3 ?_ | refine idxB_at (by decide) rfl ?_ | refine atB_at (by decide) (by decide) ?_ | refine getB_lit _ rfl ?_ | refine z7 ?_); conv => whnf) | trivial)))
      refine slB (q + 1) l.length rfl (by simp [isHi]) (by simp; omega) ?_
      ((conv => whnf); (repeat (first | ((first | refine z1 ?_ | refine z2 ?_ | refine z3 ?_ | refine idxB_at (by decide) rfl ?_ | refine atB_at (by decide) (by decide) ?_ | refine getB_lit _ rfl ?_ | refine z7 ?_); conv => whnf) | trivial)))
      refine frzK ?_
      ((conv => whnf); (repeat (first | ((first | refine z1 ?_ | refine z2 ?_ | refine z3 ?_ | refine idxB_at (by decide) rfl ?_ | refine atB_at (by decide) (by decide) ?_ | refine getB_lit _ rfl ?_ | refine z7 ?_); conv => whnf) | trivial)))
      all_goals exact cb ⟨by simp; omega, by simp [Item.row, List.take_of_length_le]⟩ (by ((conv => whnf); (repeat (first | ((first | refine z1 ?_ | refine z2 ?_ | refine z3 ?_ | refine idxB_at (by decide) rfl ?_ | refine atB_at (by decide) (by decide) ?_ | refine getB_lit _ rfl ?_ | refine z7 ?_); conv => whnf) | trivial))))
  · have e : k = 0 := by omega
    subst e
    rw [fin fun y h0 => absurd h0 (by omega)]
    refine slB 0 0 rfl rfl (by omega) ?_
    ((conv => whnf); (repeat (first | ((first | refine z1 ?_ | refine z2 ?_ | refine z3 ?_ | refine idxB_at (by decide) rfl ?_ | refine atB_at (by decide) (by decide) ?_ | refine getB_lit _ rfl ?_ | refine z7 ?_); conv => whnf) | trivial)))
    refine slB 0 l.length rfl (by simp [isHi]) (by simp) ?_
    ((conv => whnf); (repeat (first | ((first | refine z1 ?_ | refine z2 ?_ | refine z3 ?_ | refine idxB_at (by decide) rfl ?_ | refine atB_at (by decide) (by decide) ?_ | refine getB_lit _ rfl ?_ | refine z7 ?_); conv => whnf) | trivial)))
    refine frzK ?_
    ((conv => whnf); (repeat (first | ((first | refine z1 ?_ | refine z2 ?_ | refine z3 ?_ | refine idxB_at (by decide) rfl ?_ | refine atB_at (by decide) (by decide) ?_ | refine getB_lit _ rfl ?_ | refine z7 ?_); conv => whnf) | trivial)))
    all_goals exact cb ⟨by simp; omega, by simp [Item.row, List.take_of_length_le]⟩ (by ((conv => whnf); (repeat (first | ((first | refine z1 ?_ | refine z2 ?_ | refine z3 ?_ | refine idxB_at (by decide) rfl ?_ | refine atB_at (by decide) (by decide) ?_ | refine getB_lit _ rfl ?_ | refine z7 ?_); conv => whnf) | trivial))))
theorem refSortC (l : List Item) (hl : l.length < 1000000) : PSpec Try.prog 54 [itemsV l] (itemsV (ssort cmpEv l)) := by
  have hs : ∀ i, Srt cmpEv (ssort cmpEv (l.take i)) := fun i => ssort_srt cmpEvC _
  have hln : ∀ i, (ssort cmpEv (l.take i)).length ≤ l.length := fun i => by rw [ssort_len cmpEvC, List.length_take]; omega
  have hst : ∀ (i : Nat) (x : Item), l[i]? = some x → placeI (ssort cmpEv (l.take i)) x = ssort cmpEv (l.take (i + 1)) := fun i x hx => by
    rw [List.take_add_one, hx, Option.toList_some, ssort_snoc]; rfl
  refine pspec tab_ok mix Try.func54 (by kernel_rfl) rfl rfl ?_
  ((conv => whnf); (repeat (first | ((first | refine z1 ?_ | refine z2 ?_ | refine z3 ?_ | refine idxB_at (by decide) rfl ?_ | refine atB_at (by decide) (by decide) ?_ | refine getB_lit _ rfl ?_ | refine z7 ?_); conv => whnf) | trivial)))
  refine loopB tab_ok mix [0] [] (fun i : Nat => [(3, itemsV (ssort cmpEv (l.take i))), (4, V.int i)]) (fun i => []) (fun i => i ≤ l.length) (fun i => l.length - i) [] 0 rfl (by omega) (by ((conv => whnf); (repeat (first | ((first | refine z1 ?_ | refine z2 ?_ | refine z3 ?_ | refine idxB_at (by decide) rfl ?_ | refine atB_at (by decide) (by decide) ?_ | refine getB_lit _ rfl ?_ | refine z7 ?_); conv => whnf) | trivial)))) ?_
  rintro i hi
  have h1 := hs i
  have h2 := hln i
  ((conv => whnf); (repeat (first | ((first | refine z1 ?_ | refine z2 ?_ | refine z3 ?_ | refine idxB_at (by decide) rfl ?_ | refine atB_at (by decide) (by decide) ?_ | refine getB_lit _ rfl ?_ | refine z7 ?_); conv => whnf) | trivial)))
  refine br_dec (fun g => ?_) (fun g => ?_) <;> ((conv => whnf); (repeat (first | ((first | refine z1 ?_ | refine z2 ?_ | refine z3 ?_ | refine idxB_at (by decide) rfl ?_ | refine atB_at (by decide) (by decide) ?_ | refine getB_lit _ rfl ?_ | refine z7 ?_); conv => whnf) | trivial)))
  · have g' : i < l.length := by simpa using g
    obtain ⟨x, hx⟩ := get_lt g'
    refine idxB hx ?_
    ((conv => whnf); (repeat (first | ((first | refine z1 ?_ | refine z2 ?_ | refine z3 ?_ | refine idxB_at (by decide) rfl ?_ | refine atB_at (by decide) (by decide) ?_ | refine getB_lit _ rfl ?_ | refine z7 ?_); conv => whnf) | trivial)))
    refine callB (placeC (ssort cmpEv (l.take i)) x (by omega) h1) ?_
    rw [hst i x hx]
    ((conv => whnf); (repeat (first | ((first | refine z1 ?_ | refine z2 ?_ | refine z3 ?_ | refine idxB_at (by decide) rfl ?_ | refine atB_at (by decide) (by decide) ?_ | refine getB_lit _ rfl ?_ | refine z7 ?_); conv => whnf) | trivial)))
    refine .mk [] (i + 1) (by omega) (by omega) ?_
    ((conv => whnf); (repeat (first | ((first | refine z1 ?_ | refine z2 ?_ | refine z3 ?_ | refine idxB_at (by decide) rfl ?_ | refine atB_at (by decide) (by decide) ?_ | refine getB_lit _ rfl ?_ | refine z7 ?_); conv => whnf) | trivial)))
  · have e : i = l.length := by simp at g; omega
    subst e
    rw [List.take_length]
    refine frzK ?_
    ((conv => whnf); (repeat (first | ((first | refine z1 ?_ | refine z2 ?_ | refine z3 ?_ | refine idxB_at (by decide) rfl ?_ | refine atB_at (by decide) (by decide) ?_ | refine getB_lit _ rfl ?_ | refine z7 ?_); conv => whnf) | trivial)))
theorem sameItemsC (l : List Item) (hl : l.length < 1000000) : PSpec Try.prog 39 [itemsV l, itemsV l] (V.bool true) := by
  refine pspec tab_ok mix Try.func39 (by kernel_rfl) rfl rfl ?_
  ((conv => whnf); (repeat (first | ((first | refine z1 ?_ | refine z2 ?_ | refine z3 ?_ | refine idxB_at (by decide) rfl ?_ | refine atB_at (by decide) (by decide) ?_ | refine getB_lit _ rfl ?_ | refine z7 ?_); conv => whnf) | trivial)))
  refine br_ndec (fun h => absurd rfl h) (fun _ => ?_)
  ((conv => whnf); (repeat (first | ((first | refine z1 ?_ | refine z2 ?_ | refine z3 ?_ | refine idxB_at (by decide) rfl ?_ | refine atB_at (by decide) (by decide) ?_ | refine getB_lit _ rfl ?_ | refine z7 ?_); conv => whnf) | trivial)))
  refine loopB tab_ok mix [0, 1] [] (fun i : Nat => [(5, V.int i)]) (fun i => []) (fun i => i ≤ l.length) (fun i => l.length - i) [] 0 rfl (by omega) (by ((conv => whnf); (repeat (first | ((first | refine z1 ?_ | refine z2 ?_ | refine z3 ?_ | refine idxB_at (by decide) rfl ?_ | refine atB_at (by decide) (by decide) ?_ | refine getB_lit _ rfl ?_ | refine z7 ?_); conv => whnf) | trivial)))) ?_
  rintro i h1
  ((conv => whnf); (repeat (first | ((first | refine z1 ?_ | refine z2 ?_ | refine z3 ?_ | refine idxB_at (by decide) rfl ?_ | refine atB_at (by decide) (by decide) ?_ | refine getB_lit _ rfl ?_ | refine z7 ?_); conv => whnf) | trivial)))
  refine br_dec (fun g => ?_) (fun g => ?_) <;> ((conv => whnf); (repeat (first | ((first | refine z1 ?_ | refine z2 ?_ | refine z3 ?_ | refine idxB_at (by decide) rfl ?_ | refine atB_at (by decide) (by decide) ?_ | refine getB_lit _ rfl ?_ | refine z7 ?_); conv => whnf) | trivial)))
  · have g' : i < l.length := by simpa using g
    obtain ⟨x, hx⟩ := get_lt g'
    refine idxB hx ?_
    ((conv => whnf); (repeat (first | ((first | refine z1 ?_ | refine z2 ?_ | refine z3 ?_ | refine idxB_at (by decide) rfl ?_ | refine atB_at (by decide) (by decide) ?_ | refine getB_lit _ rfl ?_ | refine z7 ?_); conv => whnf) | trivial)))
    refine idxB hx ?_
    ((conv => whnf); (repeat (first | ((first | refine z1 ?_ | refine z2 ?_ | refine z3 ?_ | refine idxB_at (by decide) rfl ?_ | refine atB_at (by decide) (by decide) ?_ | refine getB_lit _ rfl ?_ | refine z7 ?_); conv => whnf) | trivial)))
    refine dneqB [true, true, true] (by kernel_rfl) rfl rfl rfl ?_
    ((conv => whnf); (repeat (first | ((first | refine z1 ?_ | refine z2 ?_ | refine z3 ?_ | refine idxB_at (by decide) rfl ?_ | refine atB_at (by decide) (by decide) ?_ | refine getB_lit _ rfl ?_ | refine z7 ?_); conv => whnf) | trivial)))
    refine br_neqI (p := True) (by simp) (fun h => absurd trivial h) (fun _ => ?_)
    ((conv => whnf); (repeat (first | ((first | refine z1 ?_ | refine z2 ?_ | refine z3 ?_ | refine idxB_at (by decide) rfl ?_ | refine atB_at (by decide) (by decide) ?_ | refine getB_lit _ rfl ?_ | refine z7 ?_); conv => whnf) | trivial)))
    refine .mk [] (i + 1) (by omega) (by omega) ?_
    ((conv => whnf); (repeat (first | ((first | refine z1 ?_ | refine z2 ?_ | refine z3 ?_ | refine idxB_at (by decide) rfl ?_ | refine atB_at (by decide) (by decide) ?_ | refine getB_lit _ rfl ?_ | refine z7 ?_); conv => whnf) | trivial)))
  · exact .same rfl
theorem sameRngC (r : Rng) (hl : r.bkts.length < 1000000) (he : ∀ b ∈ r.bkts, b.length < 1000000) : PSpec Try.prog 104 [r.v, r.v] (V.bool true) := by
  refine pspec tab_ok mix Try.func104 (by kernel_rfl) rfl rfl ?_
  ((conv => whnf); (repeat (first | ((first | refine z1 ?_ | refine z2 ?_ | refine z3 ?_ | refine idxB_at (by decide) rfl ?_ | refine atB_at (by decide) (by decide) ?_ | refine getB_lit _ rfl ?_ | refine z7 ?_); conv => whnf) | trivial)))
  refine br_ndec (fun h => absurd rfl h) (fun _ => ?_)
  ((conv => whnf); (repeat (first | ((first | refine z1 ?_ | refine z2 ?_ | refine z3 ?_ | refine idxB_at (by decide) rfl ?_ | refine atB_at (by decide) (by decide) ?_ | refine getB_lit _ rfl ?_ | refine z7 ?_); conv => whnf) | trivial)))
  refine br_ndec (fun h => absurd rfl h) (fun _ => ?_)
  ((conv => whnf); (repeat (first | ((first | refine z1 ?_ | refine z2 ?_ | refine z3 ?_ | refine idxB_at (by decide) rfl ?_ | refine atB_at (by decide) (by decide) ?_ | refine getB_lit _ rfl ?_ | refine z7 ?_); conv => whnf) | trivial)))
  refine br_ndec (fun h => absurd rfl h) (fun _ => ?_)
  ((conv => whnf); (repeat (first | ((first | refine z1 ?_ | refine z2 ?_ | refine z3 ?_ | refine idxB_at (by decide) rfl ?_ | refine atB_at (by decide) (by decide) ?_ | refine getB_lit _ rfl ?_ | refine z7 ?_); conv => whnf) | trivial)))
  refine br_ndec (fun h => absurd rfl h) (fun _ => ?_)
  ((conv => whnf); (repeat (first | ((first | refine z1 ?_ | refine z2 ?_ | refine z3 ?_ | refine idxB_at (by decide) rfl ?_ | refine atB_at (by decide) (by decide) ?_ | refine getB_lit _ rfl ?_ | refine z7 ?_); conv => whnf) | trivial)))
  refine loopB tab_ok mix [2, 3] [0, 64] (fun i : Nat => [(5, V.int i)]) (fun i => []) (fun i => i ≤ r.bkts.length) (fun i => r.bkts.length - i) [] 0 rfl (by omega) (by ((conv => whnf); (repeat (first | ((first | refine z1 ?_ | refine z2 ?_ | refine z3 ?_ | refine idxB_at (by decide) rfl ?_ | refine atB_at (by decide) (by decide) ?_ | refine getB_lit _ rfl ?_ | refine z7 ?_); conv => whnf) | trivial)))) ?_
  rintro i h1
  ((conv => whnf); (repeat (first | ((first | refine z1 ?_ | refine z2 ?_ | refine z3 ?_ | refine idxB_at (by decide) rfl ?_ | refine atB_at (by decide) (by decide) ?_ | refine getB_lit _ rfl ?_ | refine z7 ?_); conv => whnf) | trivial)))
  refine br_dec (fun g => ?_) (fun g => ?_) <;> ((conv => whnf); (repeat (first | ((first | refine z1 ?_ | refine z2 ?_ | refine z3 ?_ | refine idxB_at (by decide) rfl ?_ | refine atB_at (by decide) (by decide) ?_ | refine getB_lit _ rfl ?_ | refine z7 ?_); conv => whnf) | trivial)))
  · have g' : i < r.bkts.length := by simpa using g
    obtain ⟨x, hx⟩ := get_lt g'
    have hxl := he x (List.mem_of_getElem? hx)
    refine idxB hx ?_
    ((conv => whnf); (repeat (first | ((first | refine z1 ?_ | refine z2 ?_ | refine z3 ?_ | refine idxB_at (by decide) rfl ?_ | refine atB_at (by decide) (by decide) ?_ | refine getB_lit _ rfl ?_ | refine z7 ?_); conv => whnf) | trivial)))
    refine idxB hx ?_
    ((conv => whnf); (repeat (first | ((first | refine z1 ?_ | refine z2 ?_ | refine z3 ?_ | refine idxB_at (by decide) rfl ?_ | refine atB_at (by decide) (by decide) ?_ | refine getB_lit _ rfl ?_ | refine z7 ?_); conv => whnf) | trivial)))
    refine dcallB (sameItemsC x hxl) ?_
    ((conv => whnf); (repeat (first | ((first | refine z1 ?_ | refine z2 ?_ | refine z3 ?_ | refine idxB_at (by decide) rfl ?_ | refine atB_at (by decide) (by decide) ?_ | refine getB_lit _ rfl ?_ | refine z7 ?_); conv => whnf) | trivial)))
    refine .mk [] (i + 1) (by omega) (by omega) ?_
    ((conv => whnf); (repeat (first | ((first | refine z1 ?_ | refine z2 ?_ | refine z3 ?_ | refine idxB_at (by decide) rfl ?_ | refine atB_at (by decide) (by decide) ?_ | refine getB_lit _ rfl ?_ | refine z7 ?_); conv => whnf) | trivial)))
  · exact .same rfl
theorem sameLadC (l : Lad) (h1 : l.top.length < 1000000) (h2 : l.bottom.length < 1000000) (h3 : l.rungs.length < 1000000) (h4 : ∀ r ∈ l.rungs, r.bkts.length < 1000000 ∧ ∀ b ∈ r.bkts, b.length < 1000000) : PSpec Try.prog 57 [l.v, l.v] (V.bool true) := by
  refine pspec tab_ok mix Try.func57 (by kernel_rfl) rfl rfl ?_
  ((conv => whnf); (repeat (first | ((first | refine z1 ?_ | refine z2 ?_ | refine z3 ?_ | refine idxB_at (by decide) rfl ?_ | refine atB_at (by decide) (by decide) ?_ | refine getB_lit _ rfl ?_ | refine z7 ?_); conv => whnf) | trivial)))
  refine br_ndec (fun h => absurd rfl h) (fun _ => ?_)
  ((conv => whnf); (repeat (first | ((first | refine z1 ?_ | refine z2 ?_ | refine z3 ?_ | refine idxB_at (by decide) rfl ?_ | refine atB_at (by decide) (by decide) ?_ | refine getB_lit _ rfl ?_ | refine z7 ?_); conv => whnf) | trivial)))
  refine br_ndec (fun h => absurd rfl h) (fun _ => ?_)
  ((conv => whnf); (repeat (first | ((first | refine z1 ?_ | refine z2 ?_ | refine z3 ?_ | refine idxB_at (by decide) rfl ?_ | refine atB_at (by decide) (by decide) ?_ | refine getB_lit _ rfl ?_ | refine z7 ?_); conv => whnf) | trivial)))
  refine br_ndec (fun h => absurd rfl h) (fun _ => ?_)
  ((conv => whnf); (repeat (first | ((first | refine z1 ?_ | refine z2 ?_ | refine z3 ?_ | refine idxB_at (by decide) rfl ?_ | refine atB_at (by decide) (by decide) ?_ | refine getB_lit _ rfl ?_ | refine z7 ?_); conv => whnf) | trivial)))
  refine br_ndec (fun h => absurd rfl h) (fun _ => ?_)
  ((conv => whnf); (repeat (first | ((first | refine z1 ?_ | refine z2 ?_ | refine z3 ?_ | refine idxB_at (by decide) rfl ?_ | refine atB_at (by decide) (by decide) ?_ | refine getB_lit _ rfl ?_ | refine z7 ?_); conv => whnf) | trivial)))
  refine callB (sameItemsC l.top h1) ?_
  ((conv => whnf); (repeat (first | ((first | refine z1 ?_ | refine z2 ?_ | refine z3 ?_ | refine idxB_at (by decide) rfl ?_ | refine atB_at (by decide) (by decide) ?_ | refine getB_lit _ rfl ?_ | refine z7 ?_); conv => whnf) | trivial)))
  refine callB (sameItemsC l.bottom h2) ?_
  ((conv => whnf); (repeat (first | ((first | refine z1 ?_ | refine z2 ?_ | refine z3 ?_ | refine idxB_at (by decide) rfl ?_ | refine atB_at (by decide) (by decide) ?_ | refine getB_lit _ rfl ?_ | refine z7 ?_); conv => whnf) | trivial)))
  refine loopB tab_ok mix [2, 3] [0, 64] (fun i : Nat => [(5, V.int i)]) (fun i => []) (fun i => i ≤ l.rungs.length) (fun i => l.rungs.length - i) [] 0 rfl (by omega) (by ((conv => whnf); (repeat (first | ((first | refine z1 ?_ | refine z2 ?_ | refine z3 ?_ | refine idxB_at (by decide) rfl ?_ | refine atB_at (by decide) (by decide) ?_ | refine getB_lit _ rfl ?_ | refine z7 ?_); conv => whnf) | trivial)))) ?_
  rintro i hi
  ((conv => whnf); (repeat (first | ((first | refine z1 ?_ | refine z2 ?_ | refine z3 ?_ | refine idxB_at (by decide) rfl ?_ | refine atB_at (by decide) (by decide) ?_ | refine getB_lit _ rfl ?_ | refine z7 ?_); conv => whnf) | trivial)))
  refine br_dec (fun g => ?_) (fun g => ?_) <;> ((conv => whnf); (repeat (first | ((first | refine z1 ?_ | refine z2 ?_ | refine z3 ?_ | refine idxB_at (by decide) rfl ?_ | refine atB_at (by decide) (by decide) ?_ | refine getB_lit _ rfl ?_ | refine z7 ?_); conv => whnf) | trivial)))
  · have g' : i < l.rungs.length := by simpa using g
    obtain ⟨x, hx⟩ := get_lt g'
    have hxl := h4 x (List.mem_of_getElem? hx)
    refine idxB hx ?_
    ((conv => whnf); (repeat (first | ((first | refine z1 ?_ | refine z2 ?_ | refine z3 ?_ | refine idxB_at (by decide) rfl ?_ | refine atB_at (by decide) (by decide) ?_ | refine getB_lit _ rfl ?_ | refine z7 ?_); conv => whnf) | trivial)))
    refine idxB hx ?_
    ((conv => whnf); (repeat (first | ((first | refine z1 ?_ | refine z2 ?_ | refine z3 ?_ | refine idxB_at (by decide) rfl ?_ | refine atB_at (by decide) (by decide) ?_ | refine getB_lit _ rfl ?_ | refine z7 ?_); conv => whnf) | trivial)))
    refine dcallB (sameRngC x hxl.1 hxl.2) ?_
    ((conv => whnf); (repeat (first | ((first | refine z1 ?_ | refine z2 ?_ | refine z3 ?_ | refine idxB_at (by decide) rfl ?_ | refine atB_at (by decide) (by decide) ?_ | refine getB_lit _ rfl ?_ | refine z7 ?_); conv => whnf) | trivial)))
    refine .mk [] (i + 1) (by omega) (by omega) ?_
    ((conv => whnf); (repeat (first | ((first | refine z1 ?_ | refine z2 ?_ | refine z3 ?_ | refine idxB_at (by decide) rfl ?_ | refine atB_at (by decide) (by decide) ?_ | refine getB_lit _ rfl ?_ | refine z7 ?_); conv => whnf) | trivial)))
  · exact .same rfl
end Go.Proofs.Ytmihhkcbbdpnaaa.Abs
/- The reference of the ladder: insertion. -/
namespace Go.Proofs.Ytmihhkcbbdpnaaa.Abs
open Go.Proofs
set_option maxRecDepth 10000
set_option linter.unusedSimpArgs false
set_option linter.unusedVariables false

theorem refNewLadC : PSpec Try.prog 82 [] (Lad.v ⟨0, [], [], [], 0, 0⟩) := by
  refine pspec tab_ok mix Try.func82 (by kernel_rfl) rfl rfl ?_
  ((conv => whnf); (repeat (first | ((first | refine z1 ?_ | refine z2 ?_ | refine z3 ?_ | refine idxB_at (by decide) rfl ?_ | refine atB_at (by decide) (by decide) ?_ | refine getB_lit _ rfl ?_ | refine z7 ?_); conv => whnf) | trivial)))
  refine frzK ?_
  ((conv => whnf); (repeat (first | ((first | refine z1 ?_ | refine z2 ?_ | refine z3 ?_ | refine idxB_at (by decide) rfl ?_ | refine atB_at (by decide) (by decide) ?_ | refine getB_lit _ rfl ?_ | refine z7 ?_); conv => whnf) | trivial)))
theorem refRungsC (rs : List Rng) (i : Nat) (r : Rng) (hi : i < rs.length) (hl : rs.length < 1073741824) : PSpec Try.prog 117 [rngsV rs, V.int i, r.v] (rngsV (rs.set i r)) := by
  refine pspec tab_ok mix Try.func117 (by kernel_rfl) rfl rfl ?_
  ((conv => whnf); (repeat (first | ((first | refine z1 ?_ | refine z2 ?_ | refine z3 ?_ | refine idxB_at (by decide) rfl ?_ | refine atB_at (by decide) (by decide) ?_ | refine getB_lit _ rfl ?_ | refine z7 ?_); conv => whnf) | trivial)))
  refine atB (by simpa using hi) ?_
  ((conv => whnf); (repeat (first | ((first | refine z1 ?_ | refine z2 ?_ | refine z3 ?_ | refine idxB_at (by decide) rfl ?_ | refine atB_at (by decide) (by decide) ?_ | refine getB_lit _ rfl ?_ | refine z7 ?_); conv => whnf) | trivial)))
  refine .mk (Rng.row rs[i]) (by simp [hi]) ?_
  ((conv => whnf); (repeat (first | ((first | refine z1 ?_ | refine z2 ?_ | refine z3 ?_ | refine idxB_at (by decide) rfl ?_ | refine atB_at (by decide) (by decide) ?_ | refine getB_lit _ rfl ?_ | refine z7 ?_); conv => whnf) | trivial)))
  refine frzK ?_
  ((conv => whnf); (repeat (first | ((first | refine z1 ?_ | refine z2 ?_ | refine z3 ?_ | refine idxB_at (by decide) rfl ?_ | refine atB_at (by decide) (by decide) ?_ | refine getB_lit _ rfl ?_ | refine z7 ?_); conv => whnf) | trivial)))
  all_goals exact cb ⟨by simp, by rw [List.map_set]; rfl⟩ (by ((conv => whnf); (repeat (first | ((first | refine z1 ?_ | refine z2 ?_ | refine z3 ?_ | refine idxB_at (by decide) rfl ?_ | refine atB_at (by decide) (by decide) ?_ | refine getB_lit _ rfl ?_ | refine z7 ?_); conv => whnf) | trivial))))
theorem srt_of_bf {l : List Item} (h : l.Pairwise Bf) : Srt cmpEv l := h.imp fun h => cmpEvC.lt_le' h
set_option maxHeartbeats 1000000 in
theorem refInsertC (l : Lad) (it : Item) (hf : l.Fits) (hs : l.bottom.Pairwise Bf) (hu : ∀ x ∈ l.bottom, Uq x it) : PSpec Try.prog 84 [l.v, it.v] ((insLad l it).v) := by
  obtain ⟨f1, f2, f3, f4, f5, f6⟩ := hf
  refine pspec tab_ok mix Try.func84 (by kernel_rfl) rfl rfl ?_
  ((conv => whnf); (repeat (first | ((first | refine z1 ?_ | refine z2 ?_ | refine z3 ?_ | refine idxB_at (by decide) rfl ?_ | refine atB_at (by decide) (by decide) ?_ | refine getB_lit _ rfl ?_ | refine z7 ?_); conv => whnf) | trivial)))
  refine br_dec (fun g => ?_) (fun g => ?_) <;> ((conv => whnf); (repeat (first | ((first | refine z1 ?_ | refine z2 ?_ | refine z3 ?_ | refine idxB_at (by decide) rfl ?_ | refine atB_at (by decide) (by decide) ?_ | refine getB_lit _ rfl ?_ | refine z7 ?_); conv => whnf) | trivial)))
  · refine frzK ?_
    rw [insLad, if_pos g]
    ((conv => whnf); (repeat (first | ((first | refine z1 ?_ | refine z2 ?_ | refine z3 ?_ | refine idxB_at (by decide) rfl ?_ | refine atB_at (by decide) (by decide) ?_ | refine getB_lit _ rfl ?_ | refine z7 ?_); conv => whnf) | trivial)))
    all_goals exact cb ⟨by simp, by simp [Item.row]⟩ (by ((conv => whnf); (repeat (first | ((first | refine z1 ?_ | refine z2 ?_ | refine z3 ?_ | refine idxB_at (by decide) rfl ?_ | refine atB_at (by decide) (by decide) ?_ | refine getB_lit _ rfl ?_ | refine z7 ?_); conv => whnf) | trivial))))
  rw [insLad, if_neg g]
  refine loopB tab_ok mix [2, 3, 4] [64, 128] (fun i : Nat => [(6, V.int i)]) (fun i => [(0, .rows 6 [[V.int l.topStart, itemsV l.top, rngsV l.rungs, itemsV l.bottom, V.int (l.moves + 1), V.int (l.compares + 1 + i)]])]) (fun i => i ≤ l.rungs.length ∧ ∀ r ∈ l.rungs.take i, it.time < r.at r.cur) (fun i => l.rungs.length - i) [] 0 rfl ⟨by omega, by simp⟩ (by ((conv => whnf); (repeat (first | ((first | refine z1 ?_ | refine z2 ?_ | refine z3 ?_ | refine idxB_at (by decide) rfl ?_ | refine atB_at (by decide) (by decide) ?_ | refine getB_lit _ rfl ?_ | refine z7 ?_); conv => whnf) | trivial)))) ?_
  rintro i ⟨h1, h2⟩
  ((conv => whnf); (repeat (first | ((first | refine z1 ?_ | refine z2 ?_ | refine z3 ?_ | refine idxB_at (by decide) rfl ?_ | refine atB_at (by decide) (by decide) ?_ | refine getB_lit _ rfl ?_ | refine z7 ?_); conv => whnf) | trivial)))
  refine br_dec (fun u => ?_) (fun u => ?_) <;> ((conv => whnf); (repeat (first | ((first | refine z1 ?_ | refine z2 ?_ | refine z3 ?_ | refine idxB_at (by decide) rfl ?_ | refine atB_at (by decide) (by decide) ?_ | refine getB_lit _ rfl ?_ | refine z7 ?_); conv => whnf) | trivial)))
  · have u' : i < l.rungs.length := by simpa using u
    obtain ⟨r, hr⟩ := get_lt u'
    have hro := f4 r (List.mem_of_getElem? hr)
    refine idxB hr ?_
    ((conv => whnf); (repeat (first | ((first | refine z1 ?_ | refine z2 ?_ | refine z3 ?_ | refine idxB_at (by decide) rfl ?_ | refine atB_at (by decide) (by decide) ?_ | refine getB_lit _ rfl ?_ | refine z7 ?_); conv => whnf) | trivial)))
    refine dcallB (refCurrentC r hro.fits) ?_
    ((conv => whnf); (repeat (first | ((first | refine z1 ?_ | refine z2 ?_ | refine z3 ?_ | refine idxB_at (by decide) rfl ?_ | refine atB_at (by decide) (by decide) ?_ | refine getB_lit _ rfl ?_ | refine z7 ?_); conv => whnf) | trivial)))
    refine br_dec (fun v => ?_) (fun v => ?_) <;> ((conv => whnf); (repeat (first | ((first | refine z1 ?_ | refine z2 ?_ | refine z3 ?_ | refine idxB_at (by decide) rfl ?_ | refine atB_at (by decide) (by decide) ?_ | refine getB_lit _ rfl ?_ | refine z7 ?_); conv => whnf) | trivial)))
    · have hfi : l.rungs.findIdx? (fun r => !decide (it.time < r.at r.cur)) = some i := by
        rw [List.findIdx?_eq_some_iff_getElem]
        obtain ⟨hl, hr'⟩ := List.getElem?_eq_some_iff.1 hr
        refine ⟨hl, by rw [hr']; simpa using v, fun j hj => ?_⟩
        have := h2 l.rungs[j] (List.mem_take_iff_getElem.2 ⟨j, by omega, rfl⟩)
        simpa using this
      rw [hfi]
      refine idxB hr ?_
      ((conv => whnf); (repeat (first | ((first | refine z1 ?_ | refine z2 ?_ | refine z3 ?_ | refine idxB_at (by decide) rfl ?_ | refine atB_at (by decide) (by decide) ?_ | refine getB_lit _ rfl ?_ | refine z7 ?_); conv => whnf) | trivial)))
      refine dcallB (refPutC r it hro.fits hro.len hro.each) ?_
      ((conv => whnf); (repeat (first | ((first | refine z1 ?_ | refine z2 ?_ | refine z3 ?_ | refine idxB_at (by decide) rfl ?_ | refine atB_at (by decide) (by decide) ?_ | refine getB_lit _ rfl ?_ | refine z7 ?_); conv => whnf) | trivial)))
      refine callB (refRungsC l.rungs i (putR r it).1 u' (by omega)) ?_
      ((conv => whnf); (repeat (first | ((first | refine z1 ?_ | refine z2 ?_ | refine z3 ?_ | refine idxB_at (by decide) rfl ?_ | refine atB_at (by decide) (by decide) ?_ | refine getB_lit _ rfl ?_ | refine z7 ?_); conv => whnf) | trivial)))
      refine frzK ?_
      ((conv => whnf); (repeat (first | ((first | refine z1 ?_ | refine z2 ?_ | refine z3 ?_ | refine idxB_at (by decide) rfl ?_ | refine atB_at (by decide) (by decide) ?_ | refine getB_lit _ rfl ?_ | refine z7 ?_); conv => whnf) | trivial)))
      refine cb (by rw [modify_set (fun r => (putR r it).1) Rng.row hr, List.map_set]) ?_
      ((conv => whnf); (repeat (first | ((first | refine z1 ?_ | refine z2 ?_ | refine z3 ?_ | refine idxB_at (by decide) rfl ?_ | refine atB_at (by decide) (by decide) ?_ | refine getB_lit _ rfl ?_ | refine z7 ?_); conv => whnf) | trivial)))
    · refine .mk [] (i + 1) ⟨by omega, ?_⟩ (by omega) ?_
      · rw [List.take_add_one, hr]
        intro y hy
        rcases List.mem_append.1 hy with hy | hy
        · exact h2 y hy
        · simp at hy; subst hy; omega
      · ((conv => whnf); (repeat (first | ((first | refine z1 ?_ | refine z2 ?_ | refine z3 ?_ | refine idxB_at (by decide) rfl ?_ | refine atB_at (by decide) (by decide) ?_ | refine getB_lit _ rfl ?_ | refine z7 ?_); conv => whnf) | trivial)))
  · have e : i = l.rungs.length := by simp at u; omega
    subst e
    rw [List.take_length] at h2
    have hfi : l.rungs.findIdx? (fun r => !decide (it.time < r.at r.cur)) = none := List.findIdx?_eq_none_iff.2 fun x hx => by simpa using h2 x hx
    rw [hfi]
    refine callB (placeC l.bottom it (by omega) (srt_of_bf hs)) ?_
    rw [show placeI l.bottom it = insI l.bottom it from insI_mrg hs hu]
    ((conv => whnf); (repeat (first | ((first | refine z1 ?_ | refine z2 ?_ | refine z3 ?_ | refine idxB_at (by decide) rfl ?_ | refine atB_at (by decide) (by decide) ?_ | refine getB_lit _ rfl ?_ | refine z7 ?_); conv => whnf) | trivial)))
    refine frzK ?_
    ((conv => whnf); (repeat (first | ((first | refine z1 ?_ | refine z2 ?_ | refine z3 ?_ | refine idxB_at (by decide) rfl ?_ | refine atB_at (by decide) (by decide) ?_ | refine getB_lit _ rfl ?_ | refine z7 ?_); conv => whnf) | trivial)))
end Go.Proofs.Ytmihhkcbbdpnaaa.Abs
/- The reference of the ladder: refilling, Peek and Pop. -/
namespace Go.Proofs.Ytmihhkcbbdpnaaa.Abs
open Go.Proofs
set_option maxRecDepth 10000
set_option linter.unusedSimpArgs false
set_option linter.unusedVariables false

theorem refSpreadC (l : Lad) (f w : Int) (its : List Item) (hf : 0 ≤ f ∧ f ≤ 2305843009213693952) (hw : 1 ≤ w ∧ w ≤ 288230376151711744) (hl : its.length < 1000000) (hr : l.rungs.length < 1000000) :
    PSpec Try.prog 164 [l.v, V.int f, V.int w, itemsV its] (Lad.v { l with rungs := l.rungs ++ [spreadR f w its] }) := by
  refine pspec tab_ok mix Try.func164 (by kernel_rfl) rfl rfl ?_
  ((conv => whnf); (repeat (first | ((first | refine z1 ?_ | refine z2 ?_ | refine z3 ?_ | refine idxB_at (by decide) rfl ?_ | refine atB_at (by decide) (by decide) ?_ | refine getB_lit _ rfl ?_ | refine z7 ?_); conv => whnf) | trivial)))
  refine callB (refNewRungC f w) ?_
  let R : Nat → Rng := fun i => (its.take i).foldl putS ⟨f, w, 0, List.replicate 8 []⟩
  have hR : ∀ i, R i = (its.take i).foldl putS ⟨f, w, 0, List.replicate 8 []⟩ := fun _ => rfl
  have hR0 : (⟨f, w, 0, List.replicate 8 []⟩ : Rng) = R 0 := rfl
  have hRs : ∀ (i : Nat) (x : Item), its[i]? = some x → R (i + 1) = putS (R i) x := fun i x hx => by
    rw [hR, hR, List.take_add_one, hx, Option.toList_some, List.foldl_append]; rfl
  have hRle : ∀ i, (R i).Le i ∨ (R i).Le its.length := fun i => by
    have := foldl_le (its.take i) _ 0 (spread0_le hf hw)
    rw [Nat.zero_add, List.length_take] at this
    rw [hR]
    rcases Nat.le_total i its.length with h | h
    · rw [Nat.min_eq_left h] at this; exact .inl this
    · rw [Nat.min_eq_right h] at this; exact .inr this
  have hRe : spreadR f w its = R its.length := by rw [hR, List.take_length]; rfl
  rw [hRe, hR0]
  clear_value R
  ((conv => whnf); (repeat (first | ((first | refine z1 ?_ | refine z2 ?_ | refine z3 ?_ | refine idxB_at (by decide) rfl ?_ | refine atB_at (by decide) (by decide) ?_ | refine getB_lit _ rfl ?_ | refine z7 ?_); conv => whnf) | trivial)))
  refine loopB tab_ok mix [3, 4, 8, 9] [0, 64] (fun i : Nat => [(10, V.int i)]) (fun i => [(320, .rows 4 [[V.int (R i).from', V.int (R i).width, V.int (R i).cur, bktsV (R i).bkts]])]) (fun i => i ≤ its.length) (fun i => its.length - i) [] 0 rfl (by omega) (by ((conv => whnf); (repeat (first | ((first | refine z1 ?_ | refine z2 ?_ | refine z3 ?_ | refine idxB_at (by decide) rfl ?_ | refine atB_at (by decide) (by decide) ?_ | refine getB_lit _ rfl ?_ | refine z7 ?_); conv => whnf) | trivial)))) ?_
  rintro i hi
  ((conv => whnf); (repeat (first | ((first | refine z1 ?_ | refine z2 ?_ | refine z3 ?_ | refine idxB_at (by decide) rfl ?_ | refine atB_at (by decide) (by decide) ?_ | refine getB_lit _ rfl ?_ | refine z7 ?_); conv => whnf) | trivial)))
  refine br_dec (fun u => ?_) (fun u => ?_) <;> ((conv => whnf); (repeat (first | ((first | refine z1 ?_ | refine z2 ?_ | refine z3 ?_ | refine idxB_at (by decide) rfl ?_ | refine atB_at (by decide) (by decide) ?_ | refine getB_lit _ rfl ?_ | refine z7 ?_); conv => whnf) | trivial)))
  · have u' : i < its.length := by simpa using u
    obtain ⟨x, hx⟩ := get_lt u'
    have hle : ∀ b ∈ (R i).bkts, b.length < 1000000 := by
      rcases hRle i with h | h <;> intro b hb <;> have := h.each b hb <;> omega
    have hfl : (R i).Fits ∧ (R i).bkts.length = 8 := by
      rcases hRle i with h | h <;> exact ⟨h.fits, h.len⟩
    refine idxB hx ?_
    ((conv => whnf); (repeat (first | ((first | refine z1 ?_ | refine z2 ?_ | refine z3 ?_ | refine idxB_at (by decide) rfl ?_ | refine atB_at (by decide) (by decide) ?_ | refine getB_lit _ rfl ?_ | refine z7 ?_); conv => whnf) | trivial)))
    refine dcallB (refPutC (R i) x hfl.1 hfl.2 hle) ?_
    ((conv => whnf); (repeat (first | ((first | refine z1 ?_ | refine z2 ?_ | refine z3 ?_ | refine idxB_at (by decide) rfl ?_ | refine atB_at (by decide) (by decide) ?_ | refine getB_lit _ rfl ?_ | refine z7 ?_); conv => whnf) | trivial)))
    refine .mk [] (i + 1) (by omega) (by omega) ?_
    rw [hRs i x hx]
    ((conv => whnf); (repeat (first | ((first | refine z1 ?_ | refine z2 ?_ | refine z3 ?_ | refine idxB_at (by decide) rfl ?_ | refine atB_at (by decide) (by decide) ?_ | refine getB_lit _ rfl ?_ | refine z7 ?_); conv => whnf) | trivial)))
  · have e : i = its.length := by simp at u; omega
    subst e
    refine frzK ?_
    ((conv => whnf); (repeat (first | ((first | refine z1 ?_ | refine z2 ?_ | refine z3 ?_ | refine idxB_at (by decide) rfl ?_ | refine atB_at (by decide) (by decide) ?_ | refine getB_lit _ rfl ?_ | refine z7 ?_); conv => whnf) | trivial)))
    all_goals exact cb ⟨by simp, by simp [Rng.row]⟩ (by ((conv => whnf); (repeat (first | ((first | refine z1 ?_ | refine z2 ?_ | refine z3 ?_ | refine idxB_at (by decide) rfl ?_ | refine atB_at (by decide) (by decide) ?_ | refine getB_lit _ rfl ?_ | refine z7 ?_); conv => whnf) | trivial))))
def lowT (a : Int) (y : Item) : Int := if y.time < a then y.time else a
def highT (a : Int) (y : Item) : Int := if a < y.time then y.time else a
theorem low_eq : ∀ (l : List Item) (x : Item), l.foldl lowT x.time = (minI x l).time
  | [], x => rfl
  | y :: l, x => by
    have e : minI x (y :: l) = minI (minS x y) l := rfl
    rw [e, ← low_eq l (minS x y), List.foldl_cons]
    congr 1
    unfold lowT minS
    split <;> split <;> omega
theorem high_eq : ∀ (l : List Item) (x : Item), l.foldl highT x.time = (maxI x l).time
  | [], x => rfl
  | y :: l, x => by
    have e : maxI x (y :: l) = maxI (maxS x y) l := rfl
    rw [e, ← high_eq l (maxS x y), List.foldl_cons]
    congr 1
    unfold highT maxS
    split <;> split <;> omega
theorem foldl_next {α : Type} (f : α → Item → α) (a : α) {l : List Item} {i : Nat} {x : Item} (h : l[i]? = some x) : (l.take (i + 1)).foldl f a = f ((l.take i).foldl f a) x := by
  rw [List.take_add_one, h, Option.toList_some, List.foldl_append]; rfl
set_option maxHeartbeats 1000000 in
theorem refFromTopC (l : Lad) (x : Item) (rest : List Item) (htop : l.top = x :: rest) (ht : Times60 (x :: rest)) (hl : rest.length < 900000) (hr : l.rungs.length < 1000000) (hmv : -1152921504606846976 ≤ l.moves ∧ l.moves ≤ 1152921504606846976) :
    PSpec Try.prog 158 [l.v] ((takeTopL l x rest).v) := by
  have hmin : 0 ≤ (minI x rest).time ∧ (minI x rest).time ≤ 1152921504606846976 := by
    rcases minI_mem rest x with h | h
    · rw [h]; exact ht x (by simp)
    · exact ht _ (by simp [h])
  have hmax : 0 ≤ (maxI x rest).time ∧ (maxI x rest).time ≤ 1152921504606846976 := by
    rcases maxI_mem rest x with h | h
    · rw [h]; exact ht x (by simp)
    · exact ht _ (by simp [h])
  have hmm : (minI x rest).time ≤ (maxI x rest).time := Int.le_trans (minI_le rest x) (maxI_ge rest x)
  have hlo : (x :: rest).foldl lowT x.time = (minI x rest).time := by
    rw [List.foldl_cons, ← low_eq rest x]; congr 1; unfold lowT; split <;> omega
  have hhi : (x :: rest).foldl highT x.time = (maxI x rest).time := by
    rw [List.foldl_cons, ← high_eq rest x]; congr 1; unfold highT; split <;> omega
  obtain ⟨ts, top, rungs, bottom, moves, compares⟩ := l
  dsimp only at htop hr hmv
  subst htop
  have h0 : (x :: rest)[0]? = some x := rfl
  have hlen : (x :: rest).length = rest.length + 1 := rfl
  generalize hL : x :: rest = L at *
  refine pspec tab_ok mix Try.func158 (by kernel_rfl) rfl rfl ?_
  ((conv => whnf); (repeat (first | ((first | refine z1 ?_ | refine z2 ?_ | refine z3 ?_ | refine idxB_at (by decide) rfl ?_ | refine atB_at (by decide) (by decide) ?_ | refine getB_lit _ rfl ?_ | refine z7 ?_); conv => whnf) | trivial)))
  refine idxB_eq 0 x rfl h0 ?_
  ((conv => whnf); (repeat (first | ((first | refine z1 ?_ | refine z2 ?_ | refine z3 ?_ | refine idxB_at (by decide) rfl ?_ | refine atB_at (by decide) (by decide) ?_ | refine getB_lit _ rfl ?_ | refine z7 ?_); conv => whnf) | trivial)))
  let lo : Nat → Int := fun i => (L.take i).foldl lowT x.time
  let hi : Nat → Int := fun i => (L.take i).foldl highT x.time
  have elo : lo L.length = (minI x rest).time := by show (L.take L.length).foldl lowT x.time = _; rw [List.take_length]; exact hlo
  have ehi : hi L.length = (maxI x rest).time := by show (L.take L.length).foldl highT x.time = _; rw [List.take_length]; exact hhi
  have slo : ∀ (i : Nat) (y : Item), L[i]? = some y → lo (i + 1) = if y.time < lo i then y.time else lo i := fun i y hy => foldl_next lowT x.time hy
  have shi : ∀ (i : Nat) (y : Item), L[i]? = some y → hi (i + 1) = if hi i < y.time then y.time else hi i := fun i y hy => foldl_next highT x.time hy
  have lo0 : x.time = lo 0 := rfl
  have hi0 : x.time = hi 0 := rfl
  clear_value lo hi
  refine loopB tab_ok mix [1, 2] [0, 64] (fun i : Nat => [(3, V.int (lo i)), (4, V.int (hi i)), (5, V.int i)]) (fun i => []) (fun i => i ≤ L.length) (fun i => L.length - i) [] 0 rfl (by omega) (by rw [← lo0, ← hi0]; ((conv => whnf); (repeat (first | ((first | refine z1 ?_ | refine z2 ?_ | refine z3 ?_ | refine idxB_at (by decide) rfl ?_ | refine atB_at (by decide) (by decide) ?_ | refine getB_lit _ rfl ?_ | refine z7 ?_); conv => whnf) | trivial)))) ?_
  rintro i h1
  ((conv => whnf); (repeat (first | ((first | refine z1 ?_ | refine z2 ?_ | refine z3 ?_ | refine idxB_at (by decide) rfl ?_ | refine atB_at (by decide) (by decide) ?_ | refine getB_lit _ rfl ?_ | refine z7 ?_); conv => whnf) | trivial)))
  refine br_dec (fun g => ?_) (fun g => ?_) <;> ((conv => whnf); (repeat (first | ((first | refine z1 ?_ | refine z2 ?_ | refine z3 ?_ | refine idxB_at (by decide) rfl ?_ | refine atB_at (by decide) (by decide) ?_ | refine getB_lit _ rfl ?_ | refine z7 ?_); conv => whnf) | trivial)))
  · have g' : i < L.length := by simpa using g
    obtain ⟨y, hy⟩ := get_lt g'
    refine idxB hy ?_
    ((conv => whnf); (repeat (first | ((first | refine z1 ?_ | refine z2 ?_ | refine z3 ?_ | refine idxB_at (by decide) rfl ?_ | refine atB_at (by decide) (by decide) ?_ | refine getB_lit _ rfl ?_ | refine z7 ?_); conv => whnf) | trivial)))
    refine idxB hy ?_
    ((conv => whnf); (repeat (first | ((first | refine z1 ?_ | refine z2 ?_ | refine z3 ?_ | refine idxB_at (by decide) rfl ?_ | refine atB_at (by decide) (by decide) ?_ | refine getB_lit _ rfl ?_ | refine z7 ?_); conv => whnf) | trivial)))
    refine .mk [] (i + 1) (by omega) (by omega) ?_
    rw [slo i y hy, shi i y hy]
    ((conv => whnf); (repeat (first | ((first | refine z1 ?_ | refine z2 ?_ | refine z3 ?_ | refine idxB_at (by decide) rfl ?_ | refine atB_at (by decide) (by decide) ?_ | refine getB_lit _ rfl ?_ | refine z7 ?_); conv => whnf) | trivial)))
  · have e : i = L.length := by simp at g; omega
    subst e
    rw [elo, ehi]
    rw [takeTopL, hL]
    have hbr : (L.length : Int) = rest.length + 1 := by rw [hlen]; omega
    refine wrB (by omega) ?_
    ((conv => whnf); (repeat (first | ((first | refine z1 ?_ | refine z2 ?_ | refine z3 ?_ | refine idxB_at (by decide) rfl ?_ | refine atB_at (by decide) (by decide) ?_ | refine getB_lit _ rfl ?_ | refine z7 ?_); conv => whnf) | trivial)))
    refine wrB (by dsimp only; rw [List.length_map]; omega) ?_
    ((conv => whnf); (repeat (first | ((first | refine z1 ?_ | refine z2 ?_ | refine z3 ?_ | refine idxB_at (by decide) rfl ?_ | refine atB_at (by decide) (by decide) ?_ | refine getB_lit _ rfl ?_ | refine z7 ?_); conv => whnf) | trivial)))
    refine br_dec (fun g => ?_) (fun g => ?_) <;> ((conv => whnf); (repeat (first | ((first | refine z1 ?_ | refine z2 ?_ | refine z3 ?_ | refine idxB_at (by decide) rfl ?_ | refine atB_at (by decide) (by decide) ?_ | refine getB_lit _ rfl ?_ | refine z7 ?_); conv => whnf) | trivial)))
    · rw [if_pos (by simp at g; omega)]
      refine callB (refSortC L (by omega)) ?_
      ((conv => whnf); (repeat (first | ((first | refine z1 ?_ | refine z2 ?_ | refine z3 ?_ | refine idxB_at (by decide) rfl ?_ | refine atB_at (by decide) (by decide) ?_ | refine getB_lit _ rfl ?_ | refine z7 ?_); conv => whnf) | trivial)))
      refine frzK ?_
      ((conv => whnf); (repeat (first | ((first | refine z1 ?_ | refine z2 ?_ | refine z3 ?_ | refine idxB_at (by decide) rfl ?_ | refine atB_at (by decide) (by decide) ?_ | refine getB_lit _ rfl ?_ | refine z7 ?_); conv => whnf) | trivial)))
      all_goals exact cb (by simp; omega) (by ((conv => whnf); (repeat (first | ((first | refine z1 ?_ | refine z2 ?_ | refine z3 ?_ | refine idxB_at (by decide) rfl ?_ | refine atB_at (by decide) (by decide) ?_ | refine getB_lit _ rfl ?_ | refine z7 ?_); conv => whnf) | trivial))))
    · rw [if_neg (by simp at g; omega)]
      refine dcallB (refWidthC (minI x rest).time (maxI x rest).time ⟨hmin.1, hmm, by omega⟩) ?_
      ((conv => whnf); (repeat (first | ((first | refine z1 ?_ | refine z2 ?_ | refine z3 ?_ | refine idxB_at (by decide) rfl ?_ | refine atB_at (by decide) (by decide) ?_ | refine getB_lit _ rfl ?_ | refine z7 ?_); conv => whnf) | trivial)))
      refine dcallC (refSpreadC ⟨(maxI x rest).time + 1, [], rungs, bottom, moves + L.length, compares⟩ (minI x rest).time (((maxI x rest).time - (minI x rest).time + 8) / 8) L ⟨hmin.1, by omega⟩ (by omega) (by omega) hr) ?_
      ((conv => whnf); (repeat (first | ((first | refine z1 ?_ | refine z2 ?_ | refine z3 ?_ | refine idxB_at (by decide) rfl ?_ | refine atB_at (by decide) (by decide) ?_ | refine getB_lit _ rfl ?_ | refine z7 ?_); conv => whnf) | trivial)))
      refine frzK ?_
      ((conv => whnf); (repeat (first | ((first | refine z1 ?_ | refine z2 ?_ | refine z3 ?_ | refine idxB_at (by decide) rfl ?_ | refine atB_at (by decide) (by decide) ?_ | refine getB_lit _ rfl ?_ | refine z7 ?_); conv => whnf) | trivial)))
      all_goals exact cb (by simp; omega) (by ((conv => whnf); (repeat (first | ((first | refine z1 ?_ | refine z2 ?_ | refine z3 ?_ | refine idxB_at (by decide) rfl ?_ | refine atB_at (by decide) (by decide) ?_ | refine getB_lit _ rfl ?_ | refine z7 ?_); conv => whnf) | trivial))))
set_option maxHeartbeats 1000000 in
theorem refFromRungC (l : Lad) (rs : List Rng) (r : Rng) (hrs : l.rungs = rs ++ [r]) (hr : r.Ok) (h8 : r.at 8 ≤ 2305843009213693952) (hl : rs.length < 900000) (hmv : -1152921504606846976 ≤ l.moves ∧ l.moves ≤ 1152921504606846976) :
    PSpec Try.prog 159 [l.v] ((takeRungL l rs r).v) := by
  obtain ⟨hn1, hn2, hn3, hn4⟩ := nextR_facts r hr h8
  obtain ⟨ts, top, rungs, bottom, moves, compares⟩ := l
  dsimp only at hrs hmv
  subst hrs
  have hlen : (rs ++ [r]).length = rs.length + 1 := by simp
  have hget : (rs ++ [r])[rs.length]? = some r := by simp
  have hset : (rs ++ [r]).set rs.length (nextR r).1 = rs ++ [(nextR r).1] := by simp
  refine pspec tab_ok mix Try.func159 (by kernel_rfl) rfl rfl ?_
  ((conv => whnf); (repeat (first | ((first | refine z1 ?_ | refine z2 ?_ | refine z3 ?_ | refine idxB_at (by decide) rfl ?_ | refine atB_at (by decide) (by decide) ?_ | refine getB_lit _ rfl ?_ | refine z7 ?_); conv => whnf) | trivial)))
  refine wrB (by simp; omega) ?_
  ((conv => whnf); (repeat (first | ((first | refine z1 ?_ | refine z2 ?_ | refine z3 ?_ | refine idxB_at (by decide) rfl ?_ | refine atB_at (by decide) (by decide) ?_ | refine getB_lit _ rfl ?_ | refine z7 ?_); conv => whnf) | trivial)))
  refine idxB_eq rs.length r (by simp) hget ?_
  ((conv => whnf); (repeat (first | ((first | refine z1 ?_ | refine z2 ?_ | refine z3 ?_ | refine idxB_at (by decide) rfl ?_ | refine atB_at (by decide) (by decide) ?_ | refine getB_lit _ rfl ?_ | refine z7 ?_); conv => whnf) | trivial)))
  refine callB (refNextC r hr.fits hr.len) ?_
  ((conv => whnf); (repeat (first | ((first | refine z1 ?_ | refine z2 ?_ | refine z3 ?_ | refine idxB_at (by decide) rfl ?_ | refine atB_at (by decide) (by decide) ?_ | refine getB_lit _ rfl ?_ | refine z7 ?_); conv => whnf) | trivial)))
  refine brK_mk (fun g => ?_) (fun g => ?_) <;> ((conv => whnf); (repeat (first | ((first | refine z1 ?_ | refine z2 ?_ | refine z3 ?_ | refine idxB_at (by decide) rfl ?_ | refine atB_at (by decide) (by decide) ?_ | refine getB_lit _ rfl ?_ | refine z7 ?_); conv => whnf) | trivial)))
  rotate_left
  · rw [takeRungL, if_neg (by rw [g]; simp)]
    refine slB 0 rs.length rfl (by simp [isHi]) (by simp) ?_
    ((conv => whnf); (repeat (first | ((first | refine z1 ?_ | refine z2 ?_ | refine z3 ?_ | refine idxB_at (by decide) rfl ?_ | refine atB_at (by decide) (by decide) ?_ | refine getB_lit _ rfl ?_ | refine z7 ?_); conv => whnf) | trivial)))
    refine frzK ?_
    ((conv => whnf); (repeat (first | ((first | refine z1 ?_ | refine z2 ?_ | refine z3 ?_ | refine idxB_at (by decide) rfl ?_ | refine atB_at (by decide) (by decide) ?_ | refine getB_lit _ rfl ?_ | refine z7 ?_); conv => whnf) | trivial)))
    all_goals exact cb ⟨by simp, by simp⟩ (by ((conv => whnf); (repeat (first | ((first | refine z1 ?_ | refine z2 ?_ | refine z3 ?_ | refine idxB_at (by decide) rfl ?_ | refine atB_at (by decide) (by decide) ?_ | refine getB_lit _ rfl ?_ | refine z7 ?_); conv => whnf) | trivial))))
  rw [takeRungL, if_pos g]
  refine callB (?_ : PSpec _ _ _ (rngsV (rs ++ [(nextR r).1]))) ?_
  · have := refRungsC (rs ++ [r]) rs.length (nextR r).1 (by simp) (by simp; omega)
    rw [hset] at this
    rw [show (((rs ++ [r]).map Rng.row).length : Int) - 1 = (rs.length : Int) by simp]
    exact this
  ((conv => whnf); (repeat (first | ((first | refine z1 ?_ | refine z2 ?_ | refine z3 ?_ | refine idxB_at (by decide) rfl ?_ | refine atB_at (by decide) (by decide) ?_ | refine getB_lit _ rfl ?_ | refine z7 ?_); conv => whnf) | trivial)))
  refine wrB (by simp; omega) ?_
  ((conv => whnf); (repeat (first | ((first | refine z1 ?_ | refine z2 ?_ | refine z3 ?_ | refine idxB_at (by decide) rfl ?_ | refine atB_at (by decide) (by decide) ?_ | refine getB_lit _ rfl ?_ | refine z7 ?_); conv => whnf) | trivial)))
  refine br_dec (fun u1 => ?_) (fun u1 => ?_) <;> ((conv => whnf); (repeat (first | ((first | refine z1 ?_ | refine z2 ?_ | refine z3 ?_ | refine idxB_at (by decide) rfl ?_ | refine atB_at (by decide) (by decide) ?_ | refine getB_lit _ rfl ?_ | refine z7 ?_); conv => whnf) | trivial)))
  · refine br_dec (fun u2 => ?_) (fun u2 => ?_) <;> ((conv => whnf); (repeat (first | ((first | refine z1 ?_ | refine z2 ?_ | refine z3 ?_ | refine idxB_at (by decide) rfl ?_ | refine atB_at (by decide) (by decide) ?_ | refine getB_lit _ rfl ?_ | refine z7 ?_); conv => whnf) | trivial)))
    · refine br_dec (fun u3 => ?_) (fun u3 => ?_) <;> ((conv => whnf); (repeat (first | ((first | refine z1 ?_ | refine z2 ?_ | refine z3 ?_ | refine idxB_at (by decide) rfl ?_ | refine atB_at (by decide) (by decide) ?_ | refine getB_lit _ rfl ?_ | refine z7 ?_); conv => whnf) | trivial)))
      · rw [if_pos ⟨by simp at u1; omega, by simp at u2; omega, by omega⟩]
        refine dcallB (refNarrowC (nextR r).1.width (by rw [hn4]; have := hr.fits.w; omega)) ?_
        ((conv => whnf); (repeat (first | ((first | refine z1 ?_ | refine z2 ?_ | refine z3 ?_ | refine idxB_at (by decide) rfl ?_ | refine atB_at (by decide) (by decide) ?_ | refine getB_lit _ rfl ?_ | refine z7 ?_); conv => whnf) | trivial)))
        refine dcallC (refSpreadC ⟨ts, top, rs ++ [(nextR r).1], bottom, moves + (nextR r).2.1.length, compares⟩ (nextR r).2.2.1 (((nextR r).1.width + 7) / 8) (nextR r).2.1 ⟨hn2, hn3⟩ (by rw [hn4]; have := hr.fits.w; omega) hn1 (by simp; omega)) ?_
        ((conv => whnf); (repeat (first | ((first | refine z1 ?_ | refine z2 ?_ | refine z3 ?_ | refine idxB_at (by decide) rfl ?_ | refine atB_at (by decide) (by decide) ?_ | refine getB_lit _ rfl ?_ | refine z7 ?_); conv => whnf) | trivial)))
        refine frzK ?_
        ((conv => whnf); (repeat (first | ((first | refine z1 ?_ | refine z2 ?_ | refine z3 ?_ | refine idxB_at (by decide) rfl ?_ | refine atB_at (by decide) (by decide) ?_ | refine getB_lit _ rfl ?_ | refine z7 ?_); conv => whnf) | trivial)))
      · refine callB (refSortC (nextR r).2.1 (by omega)) ?_
        ((conv => whnf); (repeat (first | ((first | refine z1 ?_ | refine z2 ?_ | refine z3 ?_ | refine idxB_at (by decide) rfl ?_ | refine atB_at (by decide) (by decide) ?_ | refine getB_lit _ rfl ?_ | refine z7 ?_); conv => whnf) | trivial)))
        rw [if_neg (fun h => by omega)]
        refine frzK ?_
        ((conv => whnf); (repeat (first | ((first | refine z1 ?_ | refine z2 ?_ | refine z3 ?_ | refine idxB_at (by decide) rfl ?_ | refine atB_at (by decide) (by decide) ?_ | refine getB_lit _ rfl ?_ | refine z7 ?_); conv => whnf) | trivial)))
    · refine callB (refSortC (nextR r).2.1 (by omega)) ?_
      ((conv => whnf); (repeat (first | ((first | refine z1 ?_ | refine z2 ?_ | refine z3 ?_ | refine idxB_at (by decide) rfl ?_ | refine atB_at (by decide) (by decide) ?_ | refine getB_lit _ rfl ?_ | refine z7 ?_); conv => whnf) | trivial)))
      rw [if_neg (fun h => by simp at u2; omega)]
      refine frzK ?_
      ((conv => whnf); (repeat (first | ((first | refine z1 ?_ | refine z2 ?_ | refine z3 ?_ | refine idxB_at (by decide) rfl ?_ | refine atB_at (by decide) (by decide) ?_ | refine getB_lit _ rfl ?_ | refine z7 ?_); conv => whnf) | trivial)))
  · refine callB (refSortC (nextR r).2.1 (by omega)) ?_
    ((conv => whnf); (repeat (first | ((first | refine z1 ?_ | refine z2 ?_ | refine z3 ?_ | refine idxB_at (by decide) rfl ?_ | refine atB_at (by decide) (by decide) ?_ | refine getB_lit _ rfl ?_ | refine z7 ?_); conv => whnf) | trivial)))
    rw [if_neg (fun h => by simp at u1; omega)]
    refine frzK ?_
    ((conv => whnf); (repeat (first | ((first | refine z1 ?_ | refine z2 ?_ | refine z3 ?_ | refine idxB_at (by decide) rfl ?_ | refine atB_at (by decide) (by decide) ?_ | refine getB_lit _ rfl ?_ | refine z7 ?_); conv => whnf) | trivial)))
end Go.Proofs.Ytmihhkcbbdpnaaa.Abs
/- The reference of the ladder: Peek and Pop; all items, their number. -/
namespace Go.Proofs.Ytmihhkcbbdpnaaa.Abs
open Go.Proofs
set_option maxRecDepth 10000
set_option linter.unusedSimpArgs false
set_option linter.unusedVariables false

set_option maxHeartbeats 1000000 in
theorem refRefillC (n : Nat) (l : Lad) (hn : Enough n l) : PSpec Try.prog 140 [l.v] ((fillN n l).v) := by
  refine pspec tab_ok mix Try.func140 (by kernel_rfl) rfl rfl ?_
  ((conv => whnf); (repeat (first | ((first | refine z1 ?_ | refine z2 ?_ | refine z3 ?_ | refine idxB_at (by decide) rfl ?_ | refine atB_at (by decide) (by decide) ?_ | refine getB_lit _ rfl ?_ | refine z7 ?_); conv => whnf) | exact True.intro)))
  refine loopB2 tab_ok mix [1, 2] [64] (fun (l' : Lad) (n' : Nat) => []) (fun l' n' => [(0, ladB l')]) (fun l' n' => Enough n' l' ∧ fillN n' l' = fillN n l) (fun l' n' => n') [] l n rfl ⟨hn, rfl⟩ (by ((conv => whnf); (repeat (first | ((first | refine z1 ?_ | refine z2 ?_ | refine z3 ?_ | refine idxB_at (by decide) rfl ?_ | refine atB_at (by decide) (by decide) ?_ | refine getB_lit _ rfl ?_ | refine z7 ?_); conv => whnf) | exact True.intro)))) ?_
  rintro l' n' ⟨h1, h2⟩
  rw [← h2]
  clear h2 hn
  cases hb : l'.bottom with
  | cons x rest =>
    have hne : l'.bottom ≠ [] := by rw [hb]; simp
    rw [fillN_full hne]
    ((conv => whnf); (repeat (first | ((first | refine z1 ?_ | refine z2 ?_ | refine z3 ?_ | refine idxB_at (by decide) rfl ?_ | refine atB_at (by decide) (by decide) ?_ | refine getB_lit _ rfl ?_ | refine z7 ?_); conv => whnf) | exact True.intro)))
    refine br_dec (fun g => absurd g (by rw [hb]; simp <;> omega)) (fun g => ?_)
    ((conv => whnf); (repeat (first | ((first | refine z1 ?_ | refine z2 ?_ | refine z3 ?_ | refine idxB_at (by decide) rfl ?_ | refine atB_at (by decide) (by decide) ?_ | refine getB_lit _ rfl ?_ | refine z7 ?_); conv => whnf) | exact True.intro)))
    refine frzK ?_
    ((conv => whnf); (repeat (first | ((first | refine z1 ?_ | refine z2 ?_ | refine z3 ?_ | refine idxB_at (by decide) rfl ?_ | refine atB_at (by decide) (by decide) ?_ | refine getB_lit _ rfl ?_ | refine z7 ?_); conv => whnf) | exact True.intro)))
  | nil =>
    rcases List.eq_nil_or_concat l'.rungs with hr | ⟨rs, r, hr⟩
    · cases ht : l'.top with
      | nil =>
        rw [fillN_empty hr ht]
        ((conv => whnf); (repeat (first | ((first | refine z1 ?_ | refine z2 ?_ | refine z3 ?_ | refine idxB_at (by decide) rfl ?_ | refine atB_at (by decide) (by decide) ?_ | refine getB_lit _ rfl ?_ | refine z7 ?_); conv => whnf) | exact True.intro)))
        refine br_dec (fun _ => ?_) (fun g => absurd (by rw [hb]; rfl) g)
        ((conv => whnf); (repeat (first | ((first | refine z1 ?_ | refine z2 ?_ | refine z3 ?_ | refine idxB_at (by decide) rfl ?_ | refine atB_at (by decide) (by decide) ?_ | refine getB_lit _ rfl ?_ | refine z7 ?_); conv => whnf) | exact True.intro)))
        refine wrB (by rw [hr, ht]; simp) ?_
        ((conv => whnf); (repeat (first | ((first | refine z1 ?_ | refine z2 ?_ | refine z3 ?_ | refine idxB_at (by decide) rfl ?_ | refine atB_at (by decide) (by decide) ?_ | refine getB_lit _ rfl ?_ | refine z7 ?_); conv => whnf) | exact True.intro)))
        refine br_dec (fun g => absurd g (by rw [hr, ht]; simp)) (fun _ => ?_)
        ((conv => whnf); (repeat (first | ((first | refine z1 ?_ | refine z2 ?_ | refine z3 ?_ | refine idxB_at (by decide) rfl ?_ | refine atB_at (by decide) (by decide) ?_ | refine getB_lit _ rfl ?_ | refine z7 ?_); conv => whnf) | exact True.intro)))
        refine frzK ?_
        ((conv => whnf); (repeat (first | ((first | refine z1 ?_ | refine z2 ?_ | refine z3 ?_ | refine idxB_at (by decide) rfl ?_ | refine atB_at (by decide) (by decide) ?_ | refine getB_lit _ rfl ?_ | refine z7 ?_); conv => whnf) | exact True.intro)))
      | cons x rest =>
        obtain ⟨m, rfl⟩ : ∃ m, n' = m + 1 := by
          cases n' with
          | zero => rcases h1 with h | ⟨_, h⟩
                    · exact absurd hb h
                    · rw [ht] at h; cases h
          | succ m => exact ⟨m, rfl⟩
        have hF : l'.Fill ∧ Enough m (fillL l') := by
          rcases h1 with h | ⟨_, h⟩ | h
          · exact absurd hb h
          · rw [ht] at h; cases h
          · exact h
        obtain ⟨hF, hE⟩ := hF
        have ef : fillL l' = takeTopL l' x rest := by unfold fillL; rw [hr, ht]; rfl
        have es : fillN (m + 1) l' = fillN m (fillL l') := by rw [fillN, if_pos hb]
        have hlen := hF.len
        have htop := hF.top
        have hlen0 := hF.len
        have hrl := hF.rungs
        rw [ht] at hlen htop
        simp only [List.length_cons] at hlen
        ((conv => whnf); (repeat (first | ((first | refine z1 ?_ | refine z2 ?_ | refine z3 ?_ | refine idxB_at (by decide) rfl ?_ | refine atB_at (by decide) (by decide) ?_ | refine getB_lit _ rfl ?_ | refine z7 ?_); conv => whnf) | exact True.intro)))
        refine br_dec (fun _ => ?_) (fun g => absurd (by rw [hb]; rfl) g)
        ((conv => whnf); (repeat (first | ((first | refine z1 ?_ | refine z2 ?_ | refine z3 ?_ | refine idxB_at (by decide) rfl ?_ | refine atB_at (by decide) (by decide) ?_ | refine getB_lit _ rfl ?_ | refine z7 ?_); conv => whnf) | exact True.intro)))
        refine wrB (by simp <;> omega) ?_
        ((conv => whnf); (repeat (first | ((first | refine z1 ?_ | refine z2 ?_ | refine z3 ?_ | refine idxB_at (by decide) rfl ?_ | refine atB_at (by decide) (by decide) ?_ | refine getB_lit _ rfl ?_ | refine z7 ?_); conv => whnf) | exact True.intro)))
        refine br_dec (fun _ => ?_) (fun g => absurd (by rw [hr, ht]; simp <;> omega) g)
        ((conv => whnf); (repeat (first | ((first | refine z1 ?_ | refine z2 ?_ | refine z3 ?_ | refine idxB_at (by decide) rfl ?_ | refine atB_at (by decide) (by decide) ?_ | refine getB_lit _ rfl ?_ | refine z7 ?_); conv => whnf) | exact True.intro)))
        refine br_dec (fun _ => ?_) (fun g => absurd (by rw [hr]; rfl) g)
        ((conv => whnf); (repeat (first | ((first | refine z1 ?_ | refine z2 ?_ | refine z3 ?_ | refine idxB_at (by decide) rfl ?_ | refine atB_at (by decide) (by decide) ?_ | refine getB_lit _ rfl ?_ | refine z7 ?_); conv => whnf) | exact True.intro)))
        refine callB (refFromTopC l' x rest ht htop (by omega) (by omega) hF.moves) ?_
        ((conv => whnf); (repeat (first | ((first | refine z1 ?_ | refine z2 ?_ | refine z3 ?_ | refine idxB_at (by decide) rfl ?_ | refine atB_at (by decide) (by decide) ?_ | refine getB_lit _ rfl ?_ | refine z7 ?_); conv => whnf) | exact True.intro)))
        refine .mk [] (takeTopL l' x rest) m ⟨by rw [← ef]; exact hE, by rw [es, ef]⟩ (by dsimp only; omega) ?_
        ((conv => whnf); (repeat (first | ((first | refine z1 ?_ | refine z2 ?_ | refine z3 ?_ | refine idxB_at (by decide) rfl ?_ | refine atB_at (by decide) (by decide) ?_ | refine getB_lit _ rfl ?_ | refine z7 ?_); conv => whnf) | exact True.intro)))
    · rw [List.concat_eq_append] at hr
      obtain ⟨m, rfl⟩ : ∃ m, n' = m + 1 := by
        cases n' with
        | zero => rcases h1 with h | ⟨h, _⟩
                  · exact absurd hb h
                  · rw [hr] at h; simp at h
        | succ m => exact ⟨m, rfl⟩
      have hF : l'.Fill ∧ Enough m (fillL l') := by
        rcases h1 with h | ⟨h, _⟩ | h
        · exact absurd hb h
        · rw [hr] at h; simp at h
        · exact h
      obtain ⟨hF, hE⟩ := hF
      have ef : fillL l' = takeRungL l' rs r := by unfold fillL; rw [hr]; simp
      have es : fillN (m + 1) l' = fillN m (fillL l') := by rw [fillN, if_pos hb]
      have hre := hF.each r (by rw [hr]; simp)
      have hrl : rs.length < 900000 := by have := hF.rungs; rw [hr] at this; simp at this; omega
      have hlen0 := hF.len
      have hrl0 := hF.rungs
      ((conv => whnf); (repeat (first | ((first | refine z1 ?_ | refine z2 ?_ | refine z3 ?_ | refine idxB_at (by decide) rfl ?_ | refine atB_at (by decide) (by decide) ?_ | refine getB_lit _ rfl ?_ | refine z7 ?_); conv => whnf) | exact True.intro)))
      refine br_dec (fun _ => ?_) (fun g => absurd (by rw [hb]; rfl) g)
      ((conv => whnf); (repeat (first | ((first | refine z1 ?_ | refine z2 ?_ | refine z3 ?_ | refine idxB_at (by decide) rfl ?_ | refine atB_at (by decide) (by decide) ?_ | refine getB_lit _ rfl ?_ | refine z7 ?_); conv => whnf) | exact True.intro)))
      refine wrB (by simp <;> omega) ?_
      ((conv => whnf); (repeat (first | ((first | refine z1 ?_ | refine z2 ?_ | refine z3 ?_ | refine idxB_at (by decide) rfl ?_ | refine atB_at (by decide) (by decide) ?_ | refine getB_lit _ rfl ?_ | refine z7 ?_); conv => whnf) | exact True.intro)))
      refine br_dec (fun _ => ?_) (fun g => absurd (by rw [hr]; simp <;> omega) g)
      ((conv => whnf); (repeat (first | ((first | refine z1 ?_ | refine z2 ?_ | refine z3 ?_ | refine idxB_at (by decide) rfl ?_ | refine atB_at (by decide) (by decide) ?_ | refine getB_lit _ rfl ?_ | refine z7 ?_); conv => whnf) | exact True.intro)))
      refine br_dec (fun g => absurd g (by rw [hr]; simp <;> omega)) (fun _ => ?_)
      ((conv => whnf); (repeat (first | ((first | refine z1 ?_ | refine z2 ?_ | refine z3 ?_ | refine idxB_at (by decide) rfl ?_ | refine atB_at (by decide) (by decide) ?_ | refine getB_lit _ rfl ?_ | refine z7 ?_); conv => whnf) | exact True.intro)))
      refine callB (refFromRungC l' rs r hr hre.1 hre.2 hrl hF.moves) ?_
      ((conv => whnf); (repeat (first | ((first | refine z1 ?_ | refine z2 ?_ | refine z3 ?_ | refine idxB_at (by decide) rfl ?_ | refine atB_at (by decide) (by decide) ?_ | refine getB_lit _ rfl ?_ | refine z7 ?_); conv => whnf) | exact True.intro)))
      refine .mk [] (takeRungL l' rs r) m ⟨by rw [← ef]; exact hE, by rw [es, ef]⟩ (by dsimp only; omega) ?_
      ((conv => whnf); (repeat (first | ((first | refine z1 ?_ | refine z2 ?_ | refine z3 ?_ | refine idxB_at (by decide) rfl ?_ | refine atB_at (by decide) (by decide) ?_ | refine getB_lit _ rfl ?_ | refine z7 ?_); conv => whnf) | exact True.intro)))
theorem refPeekC (n : Nat) (l : Lad) (hn : Enough n l) : PSpec Try.prog 115 [l.v] (.tup [(peekL n l).1.v, (peekL n l).2.1.v, V.bool (peekL n l).2.2]) := by
  refine pspec tab_ok mix Try.func115 (by kernel_rfl) rfl rfl ?_
  ((conv => whnf); (repeat (first | ((first | refine z1 ?_ | refine z2 ?_ | refine z3 ?_ | refine idxB_at (by decide) rfl ?_ | refine atB_at (by decide) (by decide) ?_ | refine getB_lit _ rfl ?_ | refine z7 ?_); conv => whnf) | trivial)))
  refine callB (refRefillC n l hn) ?_
  unfold peekL
  generalize fillN n l = m
  obtain ⟨ts, top, rungs, bottom, moves, compares⟩ := m
  cases bottom with
  | nil =>
    ((conv => whnf); (repeat (first | ((first | refine z1 ?_ | refine z2 ?_ | refine z3 ?_ | refine idxB_at (by decide) rfl ?_ | refine atB_at (by decide) (by decide) ?_ | refine getB_lit _ rfl ?_ | refine z7 ?_); conv => whnf) | trivial)))
    refine frzK ?_
    ((conv => whnf); (repeat (first | ((first | refine z1 ?_ | refine z2 ?_ | refine z3 ?_ | refine idxB_at (by decide) rfl ?_ | refine atB_at (by decide) (by decide) ?_ | refine getB_lit _ rfl ?_ | refine z7 ?_); conv => whnf) | trivial)))
  | cons x t =>
    ((conv => whnf); (repeat (first | ((first | refine z1 ?_ | refine z2 ?_ | refine z3 ?_ | refine idxB_at (by decide) rfl ?_ | refine atB_at (by decide) (by decide) ?_ | refine getB_lit _ rfl ?_ | refine z7 ?_); conv => whnf) | trivial)))
    refine frzK ?_
    ((conv => whnf); (repeat (first | ((first | refine z1 ?_ | refine z2 ?_ | refine z3 ?_ | refine idxB_at (by decide) rfl ?_ | refine atB_at (by decide) (by decide) ?_ | refine getB_lit _ rfl ?_ | refine z7 ?_); conv => whnf) | trivial)))
theorem refPopC (n : Nat) (l : Lad) (hn : Enough n l) (hb : (peekL n l).1.bottom.length < 1000000) : PSpec Try.prog 83 [l.v] (.tup [(popL n l).1.v, (popL n l).2.1.v, V.bool (popL n l).2.2]) := by
  have hne : (peekL n l).2.2 = true → 1 ≤ (peekL n l).1.bottom.length := by
    unfold peekL
    split
    · next x rest h => intro _; dsimp only; rw [h]; simp
    · simp
  refine pspec tab_ok mix Try.func83 (by kernel_rfl) rfl rfl ?_
  ((conv => whnf); (repeat (first | ((first | refine z1 ?_ | refine z2 ?_ | refine z3 ?_ | refine idxB_at (by decide) rfl ?_ | refine atB_at (by decide) (by decide) ?_ | refine getB_lit _ rfl ?_ | refine z7 ?_); conv => whnf) | trivial)))
  refine callB (refPeekC n l hn) ?_
  ((conv => whnf); (repeat (first | ((first | refine z1 ?_ | refine z2 ?_ | refine z3 ?_ | refine idxB_at (by decide) rfl ?_ | refine atB_at (by decide) (by decide) ?_ | refine getB_lit _ rfl ?_ | refine z7 ?_); conv => whnf) | trivial)))
  refine brK_mk (fun g => ?_) (fun g => ?_) <;> ((conv => whnf); (repeat (first | ((first | refine z1 ?_ | refine z2 ?_ | refine z3 ?_ | refine idxB_at (by decide) rfl ?_ | refine atB_at (by decide) (by decide) ?_ | refine getB_lit _ rfl ?_ | refine z7 ?_); conv => whnf) | trivial)))
  · have h1 := hne g
    refine slB 1 (peekL n l).1.bottom.length rfl (by simp [isHi]) (by simp <;> omega) ?_
    ((conv => whnf); (repeat (first | ((first | refine z1 ?_ | refine z2 ?_ | refine z3 ?_ | refine idxB_at (by decide) rfl ?_ | refine atB_at (by decide) (by decide) ?_ | refine getB_lit _ rfl ?_ | refine z7 ?_); conv => whnf) | trivial)))
    refine frzK ?_
    rw [popL, if_pos g]
    ((conv => whnf); (repeat (first | ((first | refine z1 ?_ | refine z2 ?_ | refine z3 ?_ | refine idxB_at (by decide) rfl ?_ | refine atB_at (by decide) (by decide) ?_ | refine getB_lit _ rfl ?_ | refine z7 ?_); conv => whnf) | trivial)))
    all_goals exact cb ⟨by simp, by simp [List.take_of_length_le]⟩ (by ((conv => whnf); (repeat (first | ((first | refine z1 ?_ | refine z2 ?_ | refine z3 ?_ | refine idxB_at (by decide) rfl ?_ | refine atB_at (by decide) (by decide) ?_ | refine getB_lit _ rfl ?_ | refine z7 ?_); conv => whnf) | trivial))))
  · refine frzK ?_
    rw [popL, if_neg (by rw [g]; simp)]
    ((conv => whnf); (repeat (first | ((first | refine z1 ?_ | refine z2 ?_ | refine z3 ?_ | refine idxB_at (by decide) rfl ?_ | refine atB_at (by decide) (by decide) ?_ | refine getB_lit _ rfl ?_ | refine z7 ?_); conv => whnf) | trivial)))
end Go.Proofs.Ytmihhkcbbdpnaaa.Abs
/- All items of a ladder, and their number. -/
namespace Go.Proofs.Ytmihhkcbbdpnaaa.Abs
open Go.Proofs
set_option maxRecDepth 10000
set_option linter.unusedSimpArgs false
set_option linter.unusedVariables false

theorem refRngLenC (r : Rng) (hb : r.bkts.length < 1000000) (hl : r.items.length < 1000000) : PSpec Try.prog 60 [r.v] (V.int r.items.length) := by
  have hs : ∀ (i : Nat) (x : List Item), r.bkts[i]? = some x → ((r.bkts.take (i + 1)).flatten.length : Int) = (r.bkts.take i).flatten.length + x.length := fun i x hx => by
    rw [List.take_add_one, hx, Option.toList_some, List.flatten_append, List.length_append]; simp
  have hle : ∀ i, (r.bkts.take i).flatten.length ≤ r.items.length := fun i => by
    have e : r.items = (r.bkts.take i).flatten ++ (r.bkts.drop i).flatten := by rw [← List.flatten_append, List.take_append_drop]; rfl
    rw [e, List.length_append]; omega
  have he : r.items = (r.bkts.take r.bkts.length).flatten := by rw [List.take_length]; rfl
  rw [he] at *
  let n : Nat → Nat := fun i => (r.bkts.take i).flatten.length
  have hn : ∀ i, (r.bkts.take i).flatten.length = n i := fun _ => rfl
  simp only [hn] at *
  have n0 : n 0 = 0 := rfl
  clear_value n
  refine pspec tab_ok mix Try.func60 (by kernel_rfl) rfl rfl ?_
  ((conv => whnf); (repeat (first | ((first | refine z1 ?_ | refine z2 ?_ | refine z3 ?_ | refine idxB_at (by decide) rfl ?_ | refine atB_at (by decide) (by decide) ?_ | refine getB_lit _ rfl ?_ | refine z7 ?_); conv => whnf) | trivial)))
  refine loopB tab_ok mix [1] [0] (fun i : Nat => [(3, V.int (n i)), (4, V.int i)]) (fun i => []) (fun i => i ≤ r.bkts.length) (fun i => r.bkts.length - i) [] 0 rfl (by omega) (by rw [n0]; ((conv => whnf); (repeat (first | ((first | refine z1 ?_ | refine z2 ?_ | refine z3 ?_ | refine idxB_at (by decide) rfl ?_ | refine atB_at (by decide) (by decide) ?_ | refine getB_lit _ rfl ?_ | refine z7 ?_); conv => whnf) | trivial)))) ?_
  rintro i hi
  have hni := hle i
  ((conv => whnf); (repeat (first | ((first | refine z1 ?_ | refine z2 ?_ | refine z3 ?_ | refine idxB_at (by decide) rfl ?_ | refine atB_at (by decide) (by decide) ?_ | refine getB_lit _ rfl ?_ | refine z7 ?_); conv => whnf) | trivial)))
  refine br_dec (fun g => ?_) (fun g => ?_) <;> ((conv => whnf); (repeat (first | ((first | refine z1 ?_ | refine z2 ?_ | refine z3 ?_ | refine idxB_at (by decide) rfl ?_ | refine atB_at (by decide) (by decide) ?_ | refine getB_lit _ rfl ?_ | refine z7 ?_); conv => whnf) | trivial)))
  · have g' : i < r.bkts.length := by simpa using g
    obtain ⟨x, hx⟩ := get_lt g'
    have hsi := hs i x hx
    have hni2 := hle (i + 1)
    refine idxB hx ?_
    ((conv => whnf); (repeat (first | ((first | refine z1 ?_ | refine z2 ?_ | refine z3 ?_ | refine idxB_at (by decide) rfl ?_ | refine atB_at (by decide) (by decide) ?_ | refine getB_lit _ rfl ?_ | refine z7 ?_); conv => whnf) | trivial)))
    refine wrB (by simp; omega) ?_
    ((conv => whnf); (repeat (first | ((first | refine z1 ?_ | refine z2 ?_ | refine z3 ?_ | refine idxB_at (by decide) rfl ?_ | refine atB_at (by decide) (by decide) ?_ | refine getB_lit _ rfl ?_ | refine z7 ?_); conv => whnf) | trivial)))
    refine .mk [] (i + 1) (by omega) (by omega) ?_
    rw [hsi]
    ((conv => whnf); (repeat (first | ((first | refine z1 ?_ | refine z2 ?_ | refine z3 ?_ | refine idxB_at (by decide) rfl ?_ | refine atB_at (by decide) (by decide) ?_ | refine getB_lit _ rfl ?_ | refine z7 ?_); conv => whnf) | trivial)))
    all_goals exact cb (by simp) (by ((conv => whnf); (repeat (first | ((first | refine z1 ?_ | refine z2 ?_ | refine z3 ?_ | refine idxB_at (by decide) rfl ?_ | refine atB_at (by decide) (by decide) ?_ | refine getB_lit _ rfl ?_ | refine z7 ?_); conv => whnf) | trivial))))
  · have e : i = r.bkts.length := by simp at g; omega
    subst e
    exact .same rfl
theorem growC0 : PSpec Try.prog 136 [.c (.slice none 0 0), V.int 0] (.c (.slice none 0 0)) := by
  refine pspec tab_ok mix Try.func136 (by kernel_rfl) rfl rfl ?_
  ((conv => whnf); (repeat (first | ((first | refine z1 ?_ | refine z2 ?_ | refine z3 ?_ | refine idxB_at (by decide) rfl ?_ | refine atB_at (by decide) (by decide) ?_ | refine getB_lit _ rfl ?_ | refine z7 ?_); conv => whnf) | trivial)))
  refine capNil tab_ok _ rfl rfl ?_
  ((conv => whnf); (repeat (first | ((first | refine z1 ?_ | refine z2 ?_ | refine z3 ?_ | refine idxB_at (by decide) rfl ?_ | refine atB_at (by decide) (by decide) ?_ | refine getB_lit _ rfl ?_ | refine z7 ?_); conv => whnf) | trivial)))
  exact .same rfl
def itemZ : List D := [.c (.int .i64 0), .c (.int .i64 0), .c (.int .i64 0)]
theorem growC (n : Nat) (h0 : 0 < n) (hn : n < 1000000) : LSpec Try.prog 136 [.c (.slice none 0 0), V.int n] [] 0 (.sl 0 3 0 0) [(0, .dat 3 (List.replicate n itemZ))] 1 := by
  refine lspec tab_ok mix Try.func136 (by kernel_rfl) (by rfl) (by rfl) (by rfl) (by rfl) ?_
  ((conv => whnf); (repeat (first | ((first | refine z1 ?_ | refine z2 ?_ | refine z3 ?_ | refine idxB_at (by decide) rfl ?_ | refine atB_at (by decide) (by decide) ?_ | refine getB_lit _ rfl ?_ | refine z7 ?_); conv => whnf) | trivial)))
  refine capNil tab_ok _ rfl rfl ?_
  ((conv => whnf); (repeat (first | ((first | refine z1 ?_ | refine z2 ?_ | refine z3 ?_ | refine idxB_at (by decide) rfl ?_ | refine atB_at (by decide) (by decide) ?_ | refine getB_lit _ rfl ?_ | refine z7 ?_); conv => whnf) | trivial)))
  refine br_dec (fun _ => ?_) (fun g => absurd (by omega) g)
  ((conv => whnf); (repeat (first | ((first | refine z1 ?_ | refine z2 ?_ | refine z3 ?_ | refine idxB_at (by decide) rfl ?_ | refine atB_at (by decide) (by decide) ?_ | refine getB_lit _ rfl ?_ | refine z7 ?_); conv => whnf) | trivial)))
  refine capNil tab_ok _ rfl rfl ?_
  ((conv => whnf); (repeat (first | ((first | refine z1 ?_ | refine z2 ?_ | refine z3 ?_ | refine idxB_at (by decide) rfl ?_ | refine atB_at (by decide) (by decide) ?_ | refine getB_lit _ rfl ?_ | refine z7 ?_); conv => whnf) | trivial)))
  refine slB 0 0 rfl rfl (by omega) ?_
  ((conv => whnf); (repeat (first | ((first | refine z1 ?_ | refine z2 ?_ | refine z3 ?_ | refine idxB_at (by decide) rfl ?_ | refine atB_at (by decide) (by decide) ?_ | refine getB_lit _ rfl ?_ | refine z7 ?_); conv => whnf) | trivial)))
  refine appendN tab_ok _ _ itemZ rfl (.c _ rfl (.c _ rfl (.c _ rfl .nil))) rfl rfl n rfl (kq := .i64) (congrArg (fun z : Int => V.c (.int .i64 z)) (by omega)) ⟨h0, by omega⟩ rfl rfl ?_
  ((conv => whnf); (repeat (first | ((first | refine z1 ?_ | refine z2 ?_ | refine z3 ?_ | refine idxB_at (by decide) rfl ?_ | refine atB_at (by decide) (by decide) ?_ | refine getB_lit _ rfl ?_ | refine z7 ?_); conv => whnf) | trivial)))
  refine slB 0 0 rfl rfl (by omega) ?_
  ((conv => whnf); (repeat (first | ((first | refine z1 ?_ | refine z2 ?_ | refine z3 ?_ | refine idxB_at (by decide) rfl ?_ | refine atB_at (by decide) (by decide) ?_ | refine getB_lit _ rfl ?_ | refine z7 ?_); conv => whnf) | trivial)))
  refine .mk [(0, 1216)] ?_
  ((conv => whnf); (repeat (first | ((first | refine z1 ?_ | refine z2 ?_ | refine z3 ?_ | refine idxB_at (by decide) rfl ?_ | refine atB_at (by decide) (by decide) ?_ | refine getB_lit _ rfl ?_ | refine z7 ?_); conv => whnf) | trivial)))
theorem flat_next {bs : List (List Item)} {i : Nat} {x : List Item} (hx : bs[i]? = some x) : (bs.take (i + 1)).flatten = (bs.take i).flatten ++ x := by
  rw [List.take_add_one, hx, Option.toList_some, List.flatten_append]; simp
theorem flat_le (bs : List (List Item)) (i : Nat) : (bs.take i).flatten.length ≤ bs.flatten.length := by
  have e : bs.flatten = (bs.take i).flatten ++ (bs.drop i).flatten := by rw [← List.flatten_append, List.take_append_drop]
  rw [e, List.length_append]; omega
set_option maxHeartbeats 1000000 in
theorem concatC (bs : List (List Item)) (hb : bs.length < 1000000) (hl : bs.flatten.length < 1000000) : LSpec Try.prog 100 [bktsV bs] [] 0 (.ac 0 3 bs.flatten.length) [(0, .dat 3 (bs.flatten.map Item.row))] 1 := by
  have hs : ∀ (i : Nat) (x : List Item), bs[i]? = some x → (bs.take (i + 1)).flatten = (bs.take i).flatten ++ x := fun i x hx => flat_next hx
  have hle := flat_le bs
  have he : bs.flatten = (bs.take bs.length).flatten := by rw [List.take_length]
  have h0 : (bs.take 0).flatten = [] := rfl
  let acc : Nat → List Item := fun i => (bs.take i).flatten
  have hacc : ∀ i, (bs.take i).flatten = acc i := fun _ => rfl
  simp only [hacc] at hs he hle h0
  rw [he] at hle hl ⊢
  clear_value acc
  refine lspec tab_ok mix Try.func100 (by kernel_rfl) (by rfl) (by rfl) (by rfl) (by rfl) ?_
  ((conv => whnf); (repeat (first | ((first | refine z1 ?_ | refine z2 ?_ | refine z3 ?_ | refine idxB_at (by decide) rfl ?_ | refine atB_at (by decide) (by decide) ?_ | refine getB_lit _ rfl ?_ | refine z7 ?_); conv => whnf) | trivial)))
  refine loopB tab_ok mix [0, 9, 10] [] (fun i : Nat => [(3, V.int (acc i).length), (11, V.int i)]) (fun i => []) (fun i => i ≤ bs.length) (fun i => bs.length - i) [] 0 rfl (by omega) (by rw [h0]; ((conv => whnf); (repeat (first | ((first | refine z1 ?_ | refine z2 ?_ | refine z3 ?_ | refine idxB_at (by decide) rfl ?_ | refine atB_at (by decide) (by decide) ?_ | refine getB_lit _ rfl ?_ | refine z7 ?_); conv => whnf) | trivial)))) ?_
  rintro i hi
  have hli := hle i
  ((conv => whnf); (repeat (first | ((first | refine z1 ?_ | refine z2 ?_ | refine z3 ?_ | refine idxB_at (by decide) rfl ?_ | refine atB_at (by decide) (by decide) ?_ | refine getB_lit _ rfl ?_ | refine z7 ?_); conv => whnf) | trivial)))
  refine br_dec (fun g => ?_) (fun g => ?_) <;> ((conv => whnf); (repeat (first | ((first | refine z1 ?_ | refine z2 ?_ | refine z3 ?_ | refine idxB_at (by decide) rfl ?_ | refine atB_at (by decide) (by decide) ?_ | refine getB_lit _ rfl ?_ | refine z7 ?_); conv => whnf) | trivial)))
  · have g' : i < bs.length := by simpa using g
    obtain ⟨x, hx⟩ := get_lt g'
    have hsx := hs i x hx
    have hl2 : (acc (i + 1)).length = (acc i).length + x.length := by rw [hsx, List.length_append]
    have hl3 := hle (i + 1)
    refine idxB hx ?_
    ((conv => whnf); (repeat (first | ((first | refine z1 ?_ | refine z2 ?_ | refine z3 ?_ | refine idxB_at (by decide) rfl ?_ | refine atB_at (by decide) (by decide) ?_ | refine getB_lit _ rfl ?_ | refine z7 ?_); conv => whnf) | trivial)))
    refine wrB (by simp; omega) ?_
    ((conv => whnf); (repeat (first | ((first | refine z1 ?_ | refine z2 ?_ | refine z3 ?_ | refine idxB_at (by decide) rfl ?_ | refine atB_at (by decide) (by decide) ?_ | refine getB_lit _ rfl ?_ | refine z7 ?_); conv => whnf) | trivial)))
    refine .mk [] (i + 1) (by omega) (by omega) ?_
    rw [hl2]
    ((conv => whnf); (repeat (first | ((first | refine z1 ?_ | refine z2 ?_ | refine z3 ?_ | refine idxB_at (by decide) rfl ?_ | refine atB_at (by decide) (by decide) ?_ | refine getB_lit _ rfl ?_ | refine z7 ?_); conv => whnf) | trivial)))
    all_goals exact cb (by simp) (by ((conv => whnf); (repeat (first | ((first | refine z1 ?_ | refine z2 ?_ | refine z3 ?_ | refine idxB_at (by decide) rfl ?_ | refine atB_at (by decide) (by decide) ?_ | refine getB_lit _ rfl ?_ | refine z7 ?_); conv => whnf) | trivial))))
  have ei : i = bs.length := by simp at g; omega
  subst ei
  by_cases hz : acc bs.length = []
  · have e0 : ((acc bs.length).length : Int) = 0 := by rw [hz]; rfl
    rw [e0]
    have hall : ∀ (i : Nat) (x : List Item), bs[i]? = some x → x = [] := fun i x hx => by
      have h1 := hle (i + 1)
      rw [hz, hs i x hx, List.length_append] at h1
      simp at h1
      exact h1.2
    refine callB growC0 ?_
    ((conv => whnf); (repeat (first | ((first | refine z1 ?_ | refine z2 ?_ | refine z3 ?_ | refine idxB_at (by decide) rfl ?_ | refine atB_at (by decide) (by decide) ?_ | refine getB_lit _ rfl ?_ | refine z7 ?_); conv => whnf) | trivial)))
    refine loopB tab_ok mix [25, 26] [] (fun i : Nat => [(6, .ac 1 3 0), (27, V.int i)]) (fun i => [(1, .dat 3 [])]) (fun i => i ≤ bs.length) (fun i => bs.length - i) [] 0 rfl (by omega) (by ((conv => whnf); (repeat (first | ((first | refine z1 ?_ | refine z2 ?_ | refine z3 ?_ | refine idxB_at (by decide) rfl ?_ | refine atB_at (by decide) (by decide) ?_ | refine getB_lit _ rfl ?_ | refine z7 ?_); conv => whnf) | trivial)))) ?_
    rintro i hi
    ((conv => whnf); (repeat (first | ((first | refine z1 ?_ | refine z2 ?_ | refine z3 ?_ | refine idxB_at (by decide) rfl ?_ | refine atB_at (by decide) (by decide) ?_ | refine getB_lit _ rfl ?_ | refine z7 ?_); conv => whnf) | trivial)))
    refine br_dec (fun g => ?_) (fun g => ?_) <;> ((conv => whnf); (repeat (first | ((first | refine z1 ?_ | refine z2 ?_ | refine z3 ?_ | refine idxB_at (by decide) rfl ?_ | refine atB_at (by decide) (by decide) ?_ | refine getB_lit _ rfl ?_ | refine z7 ?_); conv => whnf) | trivial)))
    · have g' : i < bs.length := by simpa using g
      obtain ⟨x, hx⟩ := get_lt g'
      cases hall i x hx
      refine idxB hx ?_
      ((conv => whnf); (repeat (first | ((first | refine z1 ?_ | refine z2 ?_ | refine z3 ?_ | refine idxB_at (by decide) rfl ?_ | refine atB_at (by decide) (by decide) ?_ | refine getB_lit _ rfl ?_ | refine z7 ?_); conv => whnf) | trivial)))
      refine .mk [(1, 1216)] (i + 1) (by omega) (by omega) ?_
      ((conv => whnf); (repeat (first | ((first | refine z1 ?_ | refine z2 ?_ | refine z3 ?_ | refine idxB_at (by decide) rfl ?_ | refine atB_at (by decide) (by decide) ?_ | refine getB_lit _ rfl ?_ | refine z7 ?_); conv => whnf) | trivial)))
    · rw [hz]
      refine .mk [(0, 1)] ?_
      ((conv => whnf); (repeat (first | ((first | refine z1 ?_ | refine z2 ?_ | refine z3 ?_ | refine idxB_at (by decide) rfl ?_ | refine atB_at (by decide) (by decide) ?_ | refine getB_lit _ rfl ?_ | refine z7 ?_); conv => whnf) | trivial)))
  · have hpos : 0 < (acc bs.length).length := by
      cases hc : acc bs.length with
      | nil => exact absurd hc hz
      | cons a t => simp
    refine callL (growC _ hpos hl) [] [] rfl ?_
    ((conv => whnf); (repeat (first | ((first | refine z1 ?_ | refine z2 ?_ | refine z3 ?_ | refine idxB_at (by decide) rfl ?_ | refine atB_at (by decide) (by decide) ?_ | refine getB_lit _ rfl ?_ | refine z7 ?_); conv => whnf) | trivial)))
    refine LoopB.room 6 rfl (Nat.le_of_ble_eq_true rfl) fun cap hcap => ?_
    refine loopB tab_ok mix [25, 26] [] (fun s : Nat ⊕ Nat => match s with
      | .inl i => [(6, .sx 1 3 0 0 cap), (27, V.int i)]
      | .inr i => [(6, .sl 1 3 0 (acc i).length), (27, V.int i)]) (fun s => match s with
      | .inl i => [(1, .dat 3 (List.replicate (acc bs.length).length itemZ))]
      | .inr i => [(1, .dat 3 ((acc i).map Item.row))]) (fun s => match s with
      | .inl i => i ≤ bs.length ∧ acc i = []
      | .inr i => i ≤ bs.length ∧ acc i ≠ []) (fun s => match s with
      | .inl i => bs.length - i
      | .inr i => bs.length - i) [(1, 512)] (.inl 0) rfl ⟨by omega, h0⟩ (by ((conv => whnf); (repeat (first | ((first | refine z1 ?_ | refine z2 ?_ | refine z3 ?_ | refine idxB_at (by decide) rfl ?_ | refine atB_at (by decide) (by decide) ?_ | refine getB_lit _ rfl ?_ | refine z7 ?_); conv => whnf) | trivial)))) ?_
    rintro (i | i) ⟨hi, hacci⟩
    · ((conv => whnf); (repeat (first | ((first | refine z1 ?_ | refine z2 ?_ | refine z3 ?_ | refine idxB_at (by decide) rfl ?_ | refine atB_at (by decide) (by decide) ?_ | refine getB_lit _ rfl ?_ | refine z7 ?_); conv => whnf) | trivial)))
      refine br_dec (fun g => ?_) (fun g => ?_) <;> ((conv => whnf); (repeat (first | ((first | refine z1 ?_ | refine z2 ?_ | refine z3 ?_ | refine idxB_at (by decide) rfl ?_ | refine atB_at (by decide) (by decide) ?_ | refine getB_lit _ rfl ?_ | refine z7 ?_); conv => whnf) | trivial)))
      · have g' : i < bs.length := by simpa using g
        obtain ⟨x, hx⟩ := get_lt g'
        refine idxB hx ?_
        ((conv => whnf); (repeat (first | ((first | refine z1 ?_ | refine z2 ?_ | refine z3 ?_ | refine idxB_at (by decide) rfl ?_ | refine atB_at (by decide) (by decide) ?_ | refine getB_lit _ rfl ?_ | refine z7 ?_); conv => whnf) | trivial)))
        have hsx := hs i x hx
        rw [hacci, List.nil_append] at hsx
        cases x with
        | nil =>
          refine appendE tab_ok _ _ rfl rfl rfl rfl ?_
          ((conv => whnf); (repeat (first | ((first | refine z1 ?_ | refine z2 ?_ | refine z3 ?_ | refine idxB_at (by decide) rfl ?_ | refine atB_at (by decide) (by decide) ?_ | refine getB_lit _ rfl ?_ | refine z7 ?_); conv => whnf) | trivial)))
          refine .mk [] (.inl (i + 1)) ⟨by omega, hsx⟩ (by dsimp only; omega) ?_
          ((conv => whnf); (repeat (first | ((first | refine z1 ?_ | refine z2 ?_ | refine z3 ?_ | refine idxB_at (by decide) rfl ?_ | refine atB_at (by decide) (by decide) ?_ | refine getB_lit _ rfl ?_ | refine z7 ?_); conv => whnf) | trivial)))
        | cons a t =>
          refine asSl tab_ok ?_
          ((conv => whnf); (repeat (first | ((first | refine z1 ?_ | refine z2 ?_ | refine z3 ?_ | refine idxB_at (by decide) rfl ?_ | refine atB_at (by decide) (by decide) ?_ | refine getB_lit _ rfl ?_ | refine z7 ?_); conv => whnf) | trivial)))
          refine cb ⟨by intro e; rw [List.replicate_eq_nil_iff] at e; omega, by simp, by have := hle (i + 1); rw [hsx] at this; simp at this ⊢; omega⟩ ?_
          ((conv => whnf); (repeat (first | ((first | refine z1 ?_ | refine z2 ?_ | refine z3 ?_ | refine idxB_at (by decide) rfl ?_ | refine atB_at (by decide) (by decide) ?_ | refine getB_lit _ rfl ?_ | refine z7 ?_); conv => whnf) | trivial)))
          refine .mk [(1, 1216)] (.inr (i + 1)) ⟨by omega, by rw [hsx]; simp⟩ (by dsimp only; omega) ?_
          ((conv => whnf); (repeat (first | ((first | refine z1 ?_ | refine z2 ?_ | refine z3 ?_ | refine idxB_at (by decide) rfl ?_ | refine atB_at (by decide) (by decide) ?_ | refine getB_lit _ rfl ?_ | refine z7 ?_); conv => whnf) | trivial)))
          refine cb (by rw [hsx]; simp) ?_
          ((conv => whnf); (repeat (first | ((first | refine z1 ?_ | refine z2 ?_ | refine z3 ?_ | refine idxB_at (by decide) rfl ?_ | refine atB_at (by decide) (by decide) ?_ | refine getB_lit _ rfl ?_ | refine z7 ?_); conv => whnf) | trivial)))
          exact cb (by rw [hsx]; simp [List.take_of_length_le]) (by ((conv => whnf); (repeat (first | ((first | refine z1 ?_ | refine z2 ?_ | refine z3 ?_ | refine idxB_at (by decide) rfl ?_ | refine atB_at (by decide) (by decide) ?_ | refine getB_lit _ rfl ?_ | refine z7 ?_); conv => whnf) | trivial))))
      · have ei : i = bs.length := by simp at g; omega
        subst ei
        exact absurd hacci hz
    · have hli2 := hle i
      have hne : (acc i).map Item.row ≠ [] := by intro e; exact hacci (List.map_eq_nil_iff.1 e)
      ((conv => whnf); (repeat (first | ((first | refine z1 ?_ | refine z2 ?_ | refine z3 ?_ | refine idxB_at (by decide) rfl ?_ | refine atB_at (by decide) (by decide) ?_ | refine getB_lit _ rfl ?_ | refine z7 ?_); conv => whnf) | trivial)))
      refine br_dec (fun g => ?_) (fun g => ?_) <;> ((conv => whnf); (repeat (first | ((first | refine z1 ?_ | refine z2 ?_ | refine z3 ?_ | refine idxB_at (by decide) rfl ?_ | refine atB_at (by decide) (by decide) ?_ | refine getB_lit _ rfl ?_ | refine z7 ?_); conv => whnf) | trivial)))
      · have g' : i < bs.length := by simpa using g
        obtain ⟨x, hx⟩ := get_lt g'
        refine idxB hx ?_
        ((conv => whnf); (repeat (first | ((first | refine z1 ?_ | refine z2 ?_ | refine z3 ?_ | refine idxB_at (by decide) rfl ?_ | refine atB_at (by decide) (by decide) ?_ | refine getB_lit _ rfl ?_ | refine z7 ?_); conv => whnf) | trivial)))
        have hsx := hs i x hx
        have hl3 := hle (i + 1)
        rw [hsx, List.length_append] at hl3
        refine cb ⟨hne, by simp, by simp; omega⟩ ?_
        ((conv => whnf); (repeat (first | ((first | refine z1 ?_ | refine z2 ?_ | refine z3 ?_ | refine idxB_at (by decide) rfl ?_ | refine atB_at (by decide) (by decide) ?_ | refine getB_lit _ rfl ?_ | refine z7 ?_); conv => whnf) | trivial)))
        refine .mk [(1, 1216)] (.inr (i + 1)) ⟨by omega, by rw [hsx]; simp [hacci]⟩ (by dsimp only; omega) ?_
        ((conv => whnf); (repeat (first | ((first | refine z1 ?_ | refine z2 ?_ | refine z3 ?_ | refine idxB_at (by decide) rfl ?_ | refine atB_at (by decide) (by decide) ?_ | refine getB_lit _ rfl ?_ | refine z7 ?_); conv => whnf) | trivial)))
        refine cb (by rw [hsx]; simp) ?_
        ((conv => whnf); (repeat (first | ((first | refine z1 ?_ | refine z2 ?_ | refine z3 ?_ | refine idxB_at (by decide) rfl ?_ | refine atB_at (by decide) (by decide) ?_ | refine getB_lit _ rfl ?_ | refine z7 ?_); conv => whnf) | trivial)))
        exact cb (by rw [hsx]; simp [List.take_of_length_le]) (by ((conv => whnf); (repeat (first | ((first | refine z1 ?_ | refine z2 ?_ | refine z3 ?_ | refine idxB_at (by decide) rfl ?_ | refine atB_at (by decide) (by decide) ?_ | refine getB_lit _ rfl ?_ | refine z7 ?_); conv => whnf) | trivial))))
      · have ei : i = bs.length := by simp at g; omega
        subst ei
        refine .mk [(0, 1)] ?_
        ((conv => whnf); (repeat (first | ((first | refine z1 ?_ | refine z2 ?_ | refine z3 ?_ | refine idxB_at (by decide) rfl ?_ | refine atB_at (by decide) (by decide) ?_ | refine getB_lit _ rfl ?_ | refine z7 ?_); conv => whnf) | trivial)))
end Go.Proofs.Ytmihhkcbbdpnaaa.Abs
/- All items of a ladder, and their number: the program and the reference. -/
namespace Go.Proofs.Ytmihhkcbbdpnaaa.Abs
open Go.Proofs
set_option maxRecDepth 10000
set_option linter.unusedSimpArgs false
set_option linter.unusedVariables false

/-- sizes that the machine can hold -/
structure Lad.Small (l : Lad) : Prop where
  len : l.items.length < 1000000
  rungs : l.rungs.length < 1000000
  each : ∀ r ∈ l.rungs, r.bkts.length < 1000000
def accL (l : Lad) (i : Nat) : List Item := l.top ++ (l.bottom ++ ((l.rungs.take i).map Rng.items).flatten)
theorem accL_next {l : Lad} {i : Nat} {r : Rng} (hr : l.rungs[i]? = some r) : accL l (i + 1) = accL l i ++ r.items := by
  unfold accL
  rw [List.take_add_one, hr, Option.toList_some, List.map_append, List.flatten_append]
  simp
theorem accL_len (l : Lad) (i : Nat) : (accL l i).length ≤ l.items.length := by
  have e : l.rungs = l.rungs.take i ++ l.rungs.drop i := (List.take_append_drop _ _).symm
  have e2 : l.rest = ((l.rungs.take i).map Rng.items).flatten ++ ((l.rungs.drop i).map Rng.items).flatten := by
    unfold Lad.rest
    conv => lhs; rw [e]
    rw [List.map_append, List.flatten_append]
  unfold accL Lad.items
  rw [e2]
  simp only [List.length_append]; omega
theorem accL_end (l : Lad) : accL l l.rungs.length = l.items := by unfold accL; rw [List.take_length]; rfl
theorem small_rung {l : Lad} (h : l.Small) {r : Rng} (hr : r ∈ l.rungs) : r.items.length < 1000000 := by
  have := rung_items_le hr
  have := h.len
  omega
set_option maxHeartbeats 1000000 in
theorem allC (l : Lad) (h : l.Small) : LSpec Try.prog 89 [l.v] [] 0 (.ac 0 3 l.items.length) [(0, .dat 3 (l.items.map Item.row))] 1 := by
  have hle := accL_len l
  have hlen := h.len
  have hrl := h.rungs
  have htb : (l.top ++ l.bottom).length < 1000000 := by
    have := hle 0
    unfold accL at this
    simp at this ⊢; omega
  have hcat : ([l.top, l.bottom] : List (List Item)).flatten = l.top ++ l.bottom := by simp
  have h0 : accL l 0 = l.top ++ l.bottom := by unfold accL; simp
  have hn : ∀ (i : Nat) (r : Rng), l.rungs[i]? = some r → accL l (i + 1) = accL l i ++ r.items := fun i r hr => accL_next hr
  rw [← accL_end] at hle hlen ⊢
  generalize accL l = acc at *
  refine lspec tab_ok mix Try.func89 (by kernel_rfl) (by rfl) (by rfl) (by rfl) (by rfl) ?_
  ((conv => whnf); (repeat (first | ((first | refine z1 ?_ | refine z2 ?_ | refine z3 ?_ | refine idxB_at (by decide) rfl ?_ | refine atB_at (by decide) (by decide) ?_ | refine getB_lit _ rfl ?_ | refine z7 ?_); conv => whnf) | trivial)))
  refine callL (concatC [l.top, l.bottom] (by simp) (by rw [hcat]; exact htb)) [] [] rfl ?_
  rw [hcat]
  ((conv => whnf); (repeat (first | ((first | refine z1 ?_ | refine z2 ?_ | refine z3 ?_ | refine idxB_at (by decide) rfl ?_ | refine atB_at (by decide) (by decide) ?_ | refine getB_lit _ rfl ?_ | refine z7 ?_); conv => whnf) | trivial)))
  refine loopB tab_ok mix [13, 14] [] (fun i : Nat => [(3, .ac 1 3 (acc i).length), (15, V.int i)]) (fun i => [(1, .dat 3 ((acc i).map Item.row))]) (fun i => i ≤ l.rungs.length) (fun i => l.rungs.length - i) [(1, 512)] 0 rfl (by omega) (by rw [h0]; ((conv => whnf); (repeat (first | ((first | refine z1 ?_ | refine z2 ?_ | refine z3 ?_ | refine idxB_at (by decide) rfl ?_ | refine atB_at (by decide) (by decide) ?_ | refine getB_lit _ rfl ?_ | refine z7 ?_); conv => whnf) | trivial)))) ?_
  rintro i hi
  have hli := hle i
  ((conv => whnf); (repeat (first | ((first | refine z1 ?_ | refine z2 ?_ | refine z3 ?_ | refine idxB_at (by decide) rfl ?_ | refine atB_at (by decide) (by decide) ?_ | refine getB_lit _ rfl ?_ | refine z7 ?_); conv => whnf) | trivial)))
  refine br_dec (fun g => ?_) (fun g => ?_) <;> ((conv => whnf); (repeat (first | ((first | refine z1 ?_ | refine z2 ?_ | refine z3 ?_ | refine idxB_at (by decide) rfl ?_ | refine atB_at (by decide) (by decide) ?_ | refine getB_lit _ rfl ?_ | refine z7 ?_); conv => whnf) | trivial)))
  · have g' : i < l.rungs.length := by simpa using g
    obtain ⟨r, hr⟩ := get_lt g'
    have hm := List.mem_of_getElem? hr
    have hni := hn i r hr
    have hl2 := hle (i + 1)
    rw [hni, List.length_append] at hl2
    refine idxB hr ?_
    ((conv => whnf); (repeat (first | ((first | refine z1 ?_ | refine z2 ?_ | refine z3 ?_ | refine idxB_at (by decide) rfl ?_ | refine atB_at (by decide) (by decide) ?_ | refine getB_lit _ rfl ?_ | refine z7 ?_); conv => whnf) | trivial)))
    refine callL (concatC r.bkts (h.each r hm) (small_rung h hm)) [] [] rfl ?_
    ((conv => whnf); (repeat (first | ((first | refine z1 ?_ | refine z2 ?_ | refine z3 ?_ | refine idxB_at (by decide) rfl ?_ | refine atB_at (by decide) (by decide) ?_ | refine getB_lit _ rfl ?_ | refine z7 ?_); conv => whnf) | trivial)))
    rw [show r.bkts.flatten = r.items from rfl]
    refine cb (by simp) ?_
    ((conv => whnf); (repeat (first | ((first | refine z1 ?_ | refine z2 ?_ | refine z3 ?_ | refine idxB_at (by decide) rfl ?_ | refine atB_at (by decide) (by decide) ?_ | refine getB_lit _ rfl ?_ | refine z7 ?_); conv => whnf) | trivial)))
    refine .mk [(1, 1472)] (i + 1) (by omega) (by omega) ?_
    rw [hni]
    ((conv => whnf); (repeat (first | ((first | refine z1 ?_ | refine z2 ?_ | refine z3 ?_ | refine idxB_at (by decide) rfl ?_ | refine atB_at (by decide) (by decide) ?_ | refine getB_lit _ rfl ?_ | refine z7 ?_); conv => whnf) | trivial)))
    all_goals exact cb (by simp) (by ((conv => whnf); (repeat (first | ((first | refine z1 ?_ | refine z2 ?_ | refine z3 ?_ | refine idxB_at (by decide) rfl ?_ | refine atB_at (by decide) (by decide) ?_ | refine getB_lit _ rfl ?_ | refine z7 ?_); conv => whnf) | trivial))); all_goals exact cb (by simp) (by ((conv => whnf); (repeat (first | ((first | refine z1 ?_ | refine z2 ?_ | refine z3 ?_ | refine idxB_at (by decide) rfl ?_ | refine atB_at (by decide) (by decide) ?_ | refine getB_lit _ rfl ?_ | refine z7 ?_); conv => whnf) | trivial)))))
  · have ei : i = l.rungs.length := by simp at g; omega
    subst ei
    refine .mk [(0, 1)] ?_
    ((conv => whnf); (repeat (first | ((first | refine z1 ?_ | refine z2 ?_ | refine z3 ?_ | refine idxB_at (by decide) rfl ?_ | refine atB_at (by decide) (by decide) ?_ | refine getB_lit _ rfl ?_ | refine z7 ?_); conv => whnf) | trivial)))
theorem lenLadC (l : Lad) (h : l.Small) : PSpec Try.prog 48 [l.v] (V.int l.items.length) := by
  refine pspec tab_ok mix Try.func48 (by kernel_rfl) rfl rfl ?_
  ((conv => whnf); (repeat (first | ((first | refine z1 ?_ | refine z2 ?_ | refine z3 ?_ | refine idxB_at (by decide) rfl ?_ | refine atB_at (by decide) (by decide) ?_ | refine getB_lit _ rfl ?_ | refine z7 ?_); conv => whnf) | trivial)))
  refine callL (allC l h) [] [] rfl ?_
  ((conv => whnf); (repeat (first | ((first | refine z1 ?_ | refine z2 ?_ | refine z3 ?_ | refine idxB_at (by decide) rfl ?_ | refine atB_at (by decide) (by decide) ?_ | refine getB_lit _ rfl ?_ | refine z7 ?_); conv => whnf) | trivial)))
  exact .same rfl
theorem refLenLadC (l : Lad) (h : l.Small) : PSpec Try.prog 85 [l.v] (V.int l.items.length) := by
  have hle := accL_len l
  have hlen := h.len
  have hrl := h.rungs
  have hn : ∀ (i : Nat) (r : Rng), l.rungs[i]? = some r → ((accL l (i + 1)).length : Int) = (accL l i).length + r.items.length := fun i r hr => by rw [accL_next hr, List.length_append]; simp
  have h0 : ((accL l 0).length : Int) = l.top.length + l.bottom.length := by unfold accL; simp
  have hl0 := hle 0
  rw [← accL_end] at hle hlen hl0 ⊢
  let n : Nat → Nat := fun i => (accL l i).length
  have hnn : ∀ i, (accL l i).length = n i := fun _ => rfl
  simp only [hnn] at *
  clear_value n
  refine pspec tab_ok mix Try.func85 (by kernel_rfl) rfl rfl ?_
  ((conv => whnf); (repeat (first | ((first | refine z1 ?_ | refine z2 ?_ | refine z3 ?_ | refine idxB_at (by decide) rfl ?_ | refine atB_at (by decide) (by decide) ?_ | refine getB_lit _ rfl ?_ | refine z7 ?_); conv => whnf) | trivial)))
  refine wrB (by simp; omega) ?_
  ((conv => whnf); (repeat (first | ((first | refine z1 ?_ | refine z2 ?_ | refine z3 ?_ | refine idxB_at (by decide) rfl ?_ | refine atB_at (by decide) (by decide) ?_ | refine getB_lit _ rfl ?_ | refine z7 ?_); conv => whnf) | trivial)))
  refine loopB tab_ok mix [1] [0] (fun i : Nat => [(3, V.int (n i)), (4, V.int i)]) (fun i => []) (fun i => i ≤ l.rungs.length) (fun i => l.rungs.length - i) [] 0 rfl (by omega) (by rw [h0]; ((conv => whnf); (repeat (first | ((first | refine z1 ?_ | refine z2 ?_ | refine z3 ?_ | refine idxB_at (by decide) rfl ?_ | refine atB_at (by decide) (by decide) ?_ | refine getB_lit _ rfl ?_ | refine z7 ?_); conv => whnf) | trivial))); all_goals exact cb (by simp) (by ((conv => whnf); (repeat (first | ((first | refine z1 ?_ | refine z2 ?_ | refine z3 ?_ | refine idxB_at (by decide) rfl ?_ | refine atB_at (by decide) (by decide) ?_ | refine getB_lit _ rfl ?_ | refine z7 ?_); conv => whnf) | trivial))))) ?_
  rintro i hi
  have hni := hle i
  ((conv => whnf); (repeat (first | ((first | refine z1 ?_ | refine z2 ?_ | refine z3 ?_ | refine idxB_at (by decide) rfl ?_ | refine atB_at (by decide) (by decide) ?_ | refine getB_lit _ rfl ?_ | refine z7 ?_); conv => whnf) | trivial)))
  refine br_dec (fun g => ?_) (fun g => ?_) <;> ((conv => whnf); (repeat (first | ((first | refine z1 ?_ | refine z2 ?_ | refine z3 ?_ | refine idxB_at (by decide) rfl ?_ | refine atB_at (by decide) (by decide) ?_ | refine getB_lit _ rfl ?_ | refine z7 ?_); conv => whnf) | trivial)))
  · have g' : i < l.rungs.length := by simpa using g
    obtain ⟨r, hr⟩ := get_lt g'
    have hm := List.mem_of_getElem? hr
    have hsi := hn i r hr
    have hni2 := hle (i + 1)
    refine idxB hr ?_
    ((conv => whnf); (repeat (first | ((first | refine z1 ?_ | refine z2 ?_ | refine z3 ?_ | refine idxB_at (by decide) rfl ?_ | refine atB_at (by decide) (by decide) ?_ | refine getB_lit _ rfl ?_ | refine z7 ?_); conv => whnf) | trivial)))
    refine callB (refRngLenC r (h.each r hm) (small_rung h hm)) ?_
    ((conv => whnf); (repeat (first | ((first | refine z1 ?_ | refine z2 ?_ | refine z3 ?_ | refine idxB_at (by decide) rfl ?_ | refine atB_at (by decide) (by decide) ?_ | refine getB_lit _ rfl ?_ | refine z7 ?_); conv => whnf) | trivial)))
    refine .mk [] (i + 1) (by omega) (by omega) ?_
    rw [hsi]
    ((conv => whnf); (repeat (first | ((first | refine z1 ?_ | refine z2 ?_ | refine z3 ?_ | refine idxB_at (by decide) rfl ?_ | refine atB_at (by decide) (by decide) ?_ | refine getB_lit _ rfl ?_ | refine z7 ?_); conv => whnf) | trivial)))
  · have e : i = l.rungs.length := by simp at g; omega
    subst e
    exact .same rfl
end Go.Proofs.Ytmihhkcbbdpnaaa.Abs
/- Plain law of workloads: the queue of a running workload against a sorted list. -/
namespace Go.Proofs.Ytmihhkcbbdpnaaa.Abs
set_option linter.unusedSimpArgs false
set_option linter.unusedVariables false

structure WOp where
  pop : Bool
  time : Int
structure Wst where
  ins : Int
  pops : Int
  depth : Int
  len : Int
  q : Lad
  out : List Item
def wIns (w : Wst) (i : Nat) (t : Int) : Wst := { w with ins := w.ins + 1, q := insLad w.q ⟨t, i, 0⟩ }
def wPop (w : Wst) : Wst := if (popG w.q).2.2 = true then { w with pops := w.pops + 1, q := (popG w.q).1, out := w.out ++ [(popG w.q).2.1] } else { w with q := (popG w.q).1 }
def wMeas (w : Wst) : Wst := { w with depth := if w.depth < w.q.rungs.length then (w.q.rungs.length : Int) else w.depth, len := if w.len < w.q.items.length then (w.q.items.length : Int) else w.len }
def wDo (w : Wst) (i : Nat) (o : WOp) : Wst := if o.pop = true then wPop w else wIns w i o.time
def wAt (ops : List WOp) : Nat → Wst
  | 0 => ⟨0, 0, 0, 0, ⟨0, [], [], [], 0, 0⟩, []⟩
  | i + 1 => match ops[i]? with
    | some o => wMeas (wDo (wAt ops i) i o)
    | none => wAt ops i
def mDo (m : List Item × List Item) (i : Nat) (o : WOp) : List Item × List Item :=
  if o.pop = true then match m.1 with
    | [] => m
    | x :: t => (t, m.2 ++ [x])
  else (insI m.1 ⟨o.time, i, 0⟩, m.2)
def mAt (ops : List WOp) : Nat → List Item × List Item
  | 0 => ([], [])
  | i + 1 => match ops[i]? with
    | some o => mDo (mAt ops i) i o
    | none => mAt ops i
def insN (ops : List WOp) : Nat → Nat
  | 0 => 0
  | i + 1 => match ops[i]? with
    | some o => if o.pop = true then insN ops i else insN ops i + 1
    | none => insN ops i
theorem insN_le (ops : List WOp) : ∀ i, insN ops i ≤ i
  | 0 => Nat.le_refl _
  | i + 1 => by
    have := insN_le ops i
    unfold insN
    split
    · split <;> omega
    · omega
def OpsOk (ops : List WOp) : Prop := ∀ o ∈ ops, 0 ≤ o.time ∧ o.time ≤ 1152921504606846976
structure WInv (ops : List WOp) (i : Nat) : Prop where
  rel : Rel (wAt ops i).q (mAt ops i).1
  out : (wAt ops i).out = (mAt ops i).2
  seq : ∀ x ∈ (mAt ops i).1, x.seq < i
  ins : (wAt ops i).ins = insN ops i
  pops : (wAt ops i).pops = (mAt ops i).2.length
  len : (mAt ops i).1.length + (mAt ops i).2.length = insN ops i
  mv : (wAt ops i).q.moves + (wAt ops i).q.pot ≤ 6 * insN ops i ∧ insN ops i ≤ (wAt ops i).q.moves
  cp : (insN ops i : Int) ≤ (wAt ops i).q.compares ∧ (wAt ops i).q.compares ≤ 5 * insN ops i
  depth : 0 ≤ (wAt ops i).depth ∧ (wAt ops i).depth ≤ 4
  mlen : 0 ≤ (wAt ops i).len ∧ (wAt ops i).len ≤ insN ops i ∧ (0 < insN ops i → 0 < (wAt ops i).len)
theorem WInv.sz {ops : List WOp} {i : Nat} (h : WInv ops i) (hi : i ≤ 1000) : (wAt ops i).q.Sz := by
  have h1 := insN_le ops i
  have h2 := h.len
  have h3 := h.rel.perm.length_eq
  have h4 := h.mv
  have h5 := h.cp
  exact ⟨by omega, by omega, by omega⟩
theorem empty_good : (⟨0, [], [], [], 0, 0⟩ : Lad).Good :=
  ⟨by decide, by simp, trivial, by simp, by simp, by simp, by simp [Lad.items, Lad.rest], by decide⟩
theorem wInv0 (ops : List WOp) : WInv ops 0 :=
  ⟨⟨empty_good, by simp [mAt], by simp [mAt, wAt, Lad.items, Lad.rest]⟩, rfl, by simp [mAt], rfl, rfl, rfl, ⟨by simp [wAt, insN, Lad.pot, pot], by simp [wAt, insN]⟩, ⟨by simp [wAt, insN], by simp [wAt, insN]⟩, ⟨by simp [wAt], by simp [wAt]⟩, ⟨by simp [wAt], by simp [wAt, insN], by simp [insN]⟩⟩
theorem wInv_step {ops : List WOp} (ho : OpsOk ops) {i : Nat} {o : WOp} (hi : i < 1000) (hx : ops[i]? = some o) (h : WInv ops i) : WInv ops (i + 1) := by
  have ew : wAt ops (i + 1) = wMeas (wDo (wAt ops i) i o) := by rw [wAt, hx]
  have em : mAt ops (i + 1) = mDo (mAt ops i) i o := by rw [mAt, hx]
  have en : insN ops (i + 1) = if o.pop = true then insN ops i else insN ops i + 1 := by rw [insN, hx]
  have hz := h.sz (by omega)
  have hle := insN_le ops i
  have hmv := h.mv
  have hcp := h.cp
  have hml := h.mlen
  have hdp := h.depth
  have hln := h.len
  have hseq := h.seq
  have hto := ho o (List.mem_of_getElem? hx)
  -- what measuring keeps
  have fin : ∀ (w : Wst) (S out : List Item) (n : Nat), Rel w.q S → w.out = out → (∀ x ∈ S, x.seq < i + 1) → w.ins = n → w.pops = out.length → S.length + out.length = n → (w.q.moves + w.q.pot ≤ 6 * n ∧ n ≤ w.q.moves) → ((n : Int) ≤ w.q.compares ∧ w.q.compares ≤ 5 * n) → (0 ≤ w.depth ∧ w.depth ≤ 4) → (0 ≤ w.len ∧ w.len ≤ n ∧ (0 < n → 0 < w.len ∨ 0 < S.length)) →
      wAt ops (i + 1) = wMeas w → mAt ops (i + 1) = (S, out) → insN ops (i + 1) = n → WInv ops (i + 1) := by
    intro w S out n r1 r2 r3 r4 r5 r6 r7 r8 r9 r10 e1 e2 e3
    have hd := r1.good.depth
    have hpl := r1.perm.length_eq
    refine ⟨by rw [e1, e2]; exact r1, by rw [e1, e2]; exact r2, by rw [e2]; exact fun x hx => by have := r3 x hx; omega, by rw [e1, e3]; exact r4, by rw [e1, e2]; exact r5, by rw [e2, e3]; exact r6, by rw [e1, e3]; exact r7, by rw [e1, e3]; exact r8, ?_, ?_⟩
    · rw [e1]; unfold wMeas; dsimp only; split <;> omega
    · rw [e1, e3]; unfold wMeas; dsimp only; split <;> omega
  cases hp : o.pop with
  | false =>
    have ed : wDo (wAt ops i) i o = wIns (wAt ops i) i o.time := by unfold wDo; rw [if_neg (by rw [hp]; simp)]
    have emd : mDo (mAt ops i) i o = (insI (mAt ops i).1 ⟨o.time, i, 0⟩, (mAt ops i).2) := by unfold mDo; rw [if_neg (by rw [hp]; simp)]
    have hu : ∀ x ∈ (mAt ops i).1, Uq x ⟨o.time, i, 0⟩ := fun x hx => by
      have := hseq x hx
      unfold Uq
      rw [Ne, cmpItem_zero]
      dsimp only; omega
    obtain ⟨g1, g2, g3⟩ := rel_ins h.rel (it := ⟨o.time, i, 0⟩) hto hu
    have gl : (insI (mAt ops i).1 ⟨o.time, i, 0⟩).length = (mAt ops i).1.length + 1 := by rw [(insI_perm _ _).length_eq]; rfl
    have gm := g2.moves
    have gp := g2.pot
    have gc := g2.comp
    refine fin (wIns (wAt ops i) i o.time) _ _ (insN ops i + 1) g1 h.out (fun x hx => ?_) (by unfold wIns; dsimp only; rw [h.ins]; omega) h.pops (by rw [gl]; omega) (by unfold wIns; dsimp only; omega) (by unfold wIns; dsimp only; omega) hdp ⟨hml.1, by unfold wIns; dsimp only; omega, fun _ => .inr (by rw [gl]; omega)⟩ (by rw [ew, ed]) (by rw [em, emd]) (by rw [en, hp]; simp)
    rcases List.mem_cons.1 ((insI_perm _ _).mem_iff.1 hx) with rfl | hx
    · dsimp only; omega
    · have := hseq x hx; omega
  | true =>
    have ed : wDo (wAt ops i) i o = wPop (wAt ops i) := by unfold wDo; rw [if_pos hp]
    have hen : insN ops (i + 1) = insN ops i := by rw [en, if_pos hp]
    obtain ⟨c1, c2, c3, c4⟩ := popG_cost h.rel.good hz
    rcases rel_pop h.rel hz with ⟨e1, e2, _, e4⟩ | ⟨x, T, e1, e2, _, _, e4⟩
    · have ep : wPop (wAt ops i) = { wAt ops i with q := (popG (wAt ops i).q).1 } := by unfold wPop; rw [if_neg (by rw [e2]; simp)]
      have emd : mDo (mAt ops i) i o = ([], (mAt ops i).2) := by unfold mDo; rw [if_pos hp, e1]; simp [← e1]
      rw [e1] at hln
      simp only [List.length_nil, Nat.zero_add] at hln
      refine fin { wAt ops i with q := (popG (wAt ops i).q).1 } [] _ (insN ops i) e4 h.out (by simp) h.ins h.pops (by simpa using hln) ⟨by dsimp only; omega, by dsimp only; omega⟩ ⟨by dsimp only; omega, by dsimp only; omega⟩ hdp ⟨hml.1, hml.2.1, fun h0 => .inl (hml.2.2 h0)⟩ (by rw [ew, ed, ep]) (by rw [em, emd]) hen
    · have ep : wPop (wAt ops i) = { wAt ops i with pops := (wAt ops i).pops + 1, q := (popG (wAt ops i).q).1, out := (wAt ops i).out ++ [x] } := by unfold wPop; rw [if_pos (by rw [e2])]; rw [e2]
      have emd : mDo (mAt ops i) i o = (T, (mAt ops i).2 ++ [x]) := by unfold mDo; rw [if_pos hp, e1]
      rw [e1] at hln
      simp only [List.length_cons] at hln
      refine fin { wAt ops i with pops := (wAt ops i).pops + 1, q := (popG (wAt ops i).q).1, out := (wAt ops i).out ++ [x] } T _ (insN ops i) e4 (by rw [h.out]) (fun y hy => by have := hseq y (by rw [e1]; simp [hy]); omega) h.ins (by dsimp only; rw [h.pops]; simp) (by simp; omega) ⟨by dsimp only; omega, by dsimp only; omega⟩ ⟨by dsimp only; omega, by dsimp only; omega⟩ hdp ⟨hml.1, hml.2.1, fun h0 => .inl (hml.2.2 h0)⟩ (by rw [ew, ed, ep]) (by rw [em, emd]) hen
theorem wInv_all {ops : List WOp} (ho : OpsOk ops) (hl : ops.length ≤ 1000) : ∀ i, i ≤ ops.length → WInv ops i
  | 0, _ => wInv0 ops
  | i + 1, hi => by
    obtain ⟨o, hx⟩ := get_lt (show i < ops.length by omega)
    exact wInv_step ho (by omega) hx (wInv_all ho hl i (by omega))
/-- what the calls of a step ask -/
theorem wInv_ins {ops : List WOp} (ho : OpsOk ops) {i : Nat} {o : WOp} (hi : i ≤ 1000) (hx : ops[i]? = some o) (h : WInv ops i) : (wAt ops i).q.Fits ∧ MonoI (wAt ops i).q.bottom ⟨o.time, i, 0⟩ ∧ (wAt ops i).q.bottom.Pairwise Bf ∧ ∀ x ∈ (wAt ops i).q.bottom, Uq x ⟨o.time, i, 0⟩ := by
  have hu : ∀ x ∈ (wAt ops i).q.bottom, Uq x ⟨o.time, i, 0⟩ := fun x hx => by
    have hx' : x ∈ (wAt ops i).q.items := by unfold Lad.items; simp [hx]
    have := h.seq x (h.rel.perm.mem_iff.2 hx')
    unfold Uq
    rw [Ne, cmpItem_zero]
    dsimp only; omega
  exact ⟨fits_of h.rel.good (h.sz hi), insI_mono h.rel.good.srt hu, h.rel.good.srt, hu⟩
theorem pop_asks {l : Lad} (h : l.Good) (hs : l.Sz) : Enough l.siz l ∧ (peekG l).1.bottom.length < 1000000 := by
  refine ⟨enough_of h hs, ?_⟩
  have hf := fillG_filled h hs
  have hb : (fillG l).bottom.length ≤ (fillG l).items.length := by unfold Lad.items; simp only [List.length_append]; omega
  have := hf.perm.length_eq
  have := hs.len
  have e : (peekG l).1 = fillG l := by rw [peekG_eq]; split <;> rfl
  rw [e]; omega
end Go.Proofs.Ytmihhkcbbdpnaaa.Abs
/- Workloads: the runner's methods, and Run. -/
namespace Go.Proofs.Ytmihhkcbbdpnaaa.Abs
open Go.Proofs
set_option maxRecDepth 10000
set_option linter.unusedSimpArgs false
set_option linter.unusedVariables false

def WOp.v (o : WOp) : V := .agg [V.bool o.pop, V.int o.time]
def WOp.row (o : WOp) : List D := [.c (.bool o.pop), .c (.int .i64 o.time)]
def opsV (l : List WOp) : V := .lst 2 (l.map WOp.row) false
def runR (w : Wst) (n : Nat) : B := .rows 13 [[V.int w.ins, V.int w.pops, V.int 0, V.int 0, V.int w.depth, V.int w.len, V.int w.q.topStart, itemsV w.q.top, rngsV w.q.rungs, itemsV w.q.bottom, V.int w.q.moves, V.int w.q.compares, .ac n 3 w.out.length]]
def outD (w : Wst) : B := .dat 3 (w.out.map Item.row)
theorem insertRC (w : Wst) (i : Nat) (o : WOp) (hf : w.q.Fits) (hm : MonoI w.q.bottom ⟨o.time, i, 0⟩) (hi : 0 ≤ w.ins ∧ w.ins < 1000000) :
    LSpec Try.prog 79 [.p 0 13 0 0, V.int i, o.v] [(0, runR w 1), (1, outD w)] 2 (.tup []) [(0, runR (wIns w i o.time) 1), (1, outD w)] 2 := by
  refine lspec tab_ok mix Try.func79 (by kernel_rfl) (by rfl) (by rfl) (by rfl) (by rfl) ?_
  ((conv => whnf); (repeat (first | ((first | refine z1 ?_ | refine z2 ?_ | refine z3 ?_ | refine idxB_at (by decide) rfl ?_ | refine atB_at (by decide) (by decide) ?_ | refine getB_lit _ rfl ?_ | refine z7 ?_); conv => whnf) | trivial)))
  refine dcallB (insertLadC w.q ⟨o.time, i, 0⟩ hf hm) ?_
  ((conv => whnf); (repeat (first | ((first | refine z1 ?_ | refine z2 ?_ | refine z3 ?_ | refine idxB_at (by decide) rfl ?_ | refine atB_at (by decide) (by decide) ?_ | refine getB_lit _ rfl ?_ | refine z7 ?_); conv => whnf) | trivial)))
  refine .mk [] ?_
  ((conv => whnf); (repeat (first | ((first | refine z1 ?_ | refine z2 ?_ | refine z3 ?_ | refine idxB_at (by decide) rfl ?_ | refine atB_at (by decide) (by decide) ?_ | refine getB_lit _ rfl ?_ | refine z7 ?_); conv => whnf) | trivial)))
theorem removeRC (w : Wst) (h1 : Enough w.q.siz w.q) (h2 : (peekG w.q).1.bottom.length < 1000000) (hp : 0 ≤ w.pops ∧ w.pops < 1000000) (ho : w.out.length < 1000000) (i : Int) (o : WOp) :
    LSpec Try.prog 80 [.p 0 13 0 0, V.int i, o.v] [(0, runR w 1), (1, outD w)] 2 (.tup []) [(0, runR (wPop w) 2), (2, outD (wPop w))] 3 := by
  refine lspec tab_ok mix Try.func80 (by kernel_rfl) (by rfl) (by rfl) (by rfl) (by rfl) ?_
  ((conv => whnf); (repeat (first | ((first | refine z1 ?_ | refine z2 ?_ | refine z3 ?_ | refine idxB_at (by decide) rfl ?_ | refine atB_at (by decide) (by decide) ?_ | refine getB_lit _ rfl ?_ | refine z7 ?_); conv => whnf) | trivial)))
  refine callB (popC w.q.siz w.q h1 h2) ?_
  ((conv => whnf); (repeat (first | ((first | refine z1 ?_ | refine z2 ?_ | refine z3 ?_ | refine idxB_at (by decide) rfl ?_ | refine atB_at (by decide) (by decide) ?_ | refine getB_lit _ rfl ?_ | refine z7 ?_); conv => whnf) | trivial)))
  refine brK_mk (fun g => ?_) (fun g => ?_) <;> ((conv => whnf); (repeat (first | ((first | refine z1 ?_ | refine z2 ?_ | refine z3 ?_ | refine idxB_at (by decide) rfl ?_ | refine atB_at (by decide) (by decide) ?_ | refine getB_lit _ rfl ?_ | refine z7 ?_); conv => whnf) | trivial)))
  · have e : wPop w = { w with pops := w.pops + 1, q := (popG w.q).1, out := w.out ++ [(popG w.q).2.1] } := by unfold wPop; rw [if_pos (show (popG w.q).2.2 = true from g)]
    rw [e]
    refine .mk [(2, 1856)] ?_
    ((conv => whnf); (repeat (first | ((first | refine z1 ?_ | refine z2 ?_ | refine z3 ?_ | refine idxB_at (by decide) rfl ?_ | refine atB_at (by decide) (by decide) ?_ | refine getB_lit _ rfl ?_ | refine z7 ?_); conv => whnf) | trivial)))
    all_goals exact cb (by first | (simp; done) | (simp [Item.row]; exact ⟨rfl, rfl, rfl⟩)) (by ((conv => whnf); (repeat (first | ((first | refine z1 ?_ | refine z2 ?_ | refine z3 ?_ | refine idxB_at (by decide) rfl ?_ | refine atB_at (by decide) (by decide) ?_ | refine getB_lit _ rfl ?_ | refine z7 ?_); conv => whnf) | trivial))); all_goals exact cb (by first | (simp; done) | (simp [Item.row]; exact ⟨rfl, rfl, rfl⟩)) (by ((conv => whnf); (repeat (first | ((first | refine z1 ?_ | refine z2 ?_ | refine z3 ?_ | refine idxB_at (by decide) rfl ?_ | refine atB_at (by decide) (by decide) ?_ | refine getB_lit _ rfl ?_ | refine z7 ?_); conv => whnf) | trivial)))))
  · have e : wPop w = { w with q := (popG w.q).1 } := by unfold wPop; rw [if_neg (by rw [show (popG w.q).2.2 = false from g]; simp)]
    rw [e]
    refine .mk [(2, 1)] ?_
    ((conv => whnf); (repeat (first | ((first | refine z1 ?_ | refine z2 ?_ | refine z3 ?_ | refine idxB_at (by decide) rfl ?_ | refine atB_at (by decide) (by decide) ?_ | refine getB_lit _ rfl ?_ | refine z7 ?_); conv => whnf) | trivial)))
theorem measureRC (w : Wst) (h : w.q.Small) :
    LSpec Try.prog 81 [.p 0 13 0 0] [(0, runR w 1), (1, outD w)] 2 (.tup []) [(0, runR (wMeas w) 1), (1, outD w)] 2 := by
  refine lspec tab_ok mix Try.func81 (by kernel_rfl) (by rfl) (by rfl) (by rfl) (by rfl) ?_
  ((conv => whnf); (repeat (first | ((first | refine z1 ?_ | refine z2 ?_ | refine z3 ?_ | refine idxB_at (by decide) rfl ?_ | refine atB_at (by decide) (by decide) ?_ | refine getB_lit _ rfl ?_ | refine z7 ?_); conv => whnf) | trivial)))
  refine dcallB (lenLadC w.q h) ?_
  ((conv => whnf); (repeat (first | ((first | refine z1 ?_ | refine z2 ?_ | refine z3 ?_ | refine idxB_at (by decide) rfl ?_ | refine atB_at (by decide) (by decide) ?_ | refine getB_lit _ rfl ?_ | refine z7 ?_); conv => whnf) | trivial)))
  refine .mk [] ?_
  ((conv => whnf); (repeat (first | ((first | refine z1 ?_ | refine z2 ?_ | refine z3 ?_ | refine idxB_at (by decide) rfl ?_ | refine atB_at (by decide) (by decide) ?_ | refine getB_lit _ rfl ?_ | refine z7 ?_); conv => whnf) | trivial)))
  refine cb (by simp [wMeas]) ?_
  ((conv => whnf); (repeat (first | ((first | refine z1 ?_ | refine z2 ?_ | refine z3 ?_ | refine idxB_at (by decide) rfl ?_ | refine atB_at (by decide) (by decide) ?_ | refine getB_lit _ rfl ?_ | refine z7 ?_); conv => whnf) | trivial)))
  all_goals exact cb (by simp [wMeas]) (by ((conv => whnf); (repeat (first | ((first | refine z1 ?_ | refine z2 ?_ | refine z3 ?_ | refine idxB_at (by decide) rfl ?_ | refine atB_at (by decide) (by decide) ?_ | refine getB_lit _ rfl ?_ | refine z7 ?_); conv => whnf) | trivial))))
theorem small_of {l : Lad} (h : l.Good) (hs : l.Sz) : l.Small := by
  have := hs.len
  have := h.depth
  refine ⟨by omega, by omega, fun r hr => ?_⟩
  have := (ok_of h hs r hr).1.len
  omega
def Wst.res (w : Wst) : V := .tup [itemsV w.out, .agg [V.int w.ins, V.int w.pops, V.int w.q.moves, V.int w.q.compares, V.int w.depth, V.int w.len]]
theorem wAt_end (ops : List WOp) : ∀ (i : Nat), ops.length ≤ i → wAt ops i = wAt ops ops.length
  | i, h => by
    obtain ⟨k, rfl⟩ : ∃ k, i = ops.length + k := ⟨i - ops.length, by omega⟩
    induction k with
    | zero => rfl
    | succ k ih =>
      have : ops[ops.length + k]? = none := List.getElem?_eq_none (by omega)
      rw [← Nat.add_assoc, wAt, this]
      exact ih (by omega)
abbrev insF (n : Nat) : V := .fn (.func 79) [.p n 13 0 0] []
abbrev remF (n : Nat) : V := .fn (.func 80) [.p n 13 0 0] []
theorem frzItems {h : List (Nat × B)} {n : Nat} {l : List Item} (hn : hAt h n = some (.dat 3 (l.map Item.row))) : FrzN (hAt h) (itemsV l) (.ac n 3 l.length) := by
  refine .ac n 3 l.length (l.map Item.row) hn (by simp) fun row hrow => ?_
  obtain ⟨x, _, rfl⟩ := List.mem_map.1 hrow
  rfl
theorem frzRes {h : List (Nat × B)} {n : Nat} {w : Wst} (hn : hAt h n = some (outD w)) : FrzN (hAt h) w.res (.tup [.ac n 3 w.out.length, .agg [V.int w.ins, V.int w.pops, V.int w.q.moves, V.int w.q.compares, V.int w.depth, V.int w.len]]) := by
  refine .tup _ _ rfl fun i r x hr hx => ?_
  match i with
  | 0 => cases hr; cases hx; exact frzItems hn
  | 1 => cases hr; cases hx; exact .flat _ rfl (.agg _ (by intro x hx; simp at hx; rcases hx with rfl | rfl | rfl | rfl | rfl | rfl <;> exact .c _))
  | i + 2 => simp at hr
theorem boolK0 : BoolKeys [] := fun e he => by cases he
theorem boolK1 (a : Bool) (v : V) : BoolKeys [(.bool a, v)] := fun e he => by
  cases List.mem_singleton.1 he; exact ⟨_, rfl⟩
theorem boolK2 (a b : Bool) (v u : V) : BoolKeys [(.bool a, v), (.bool b, u)] := fun e he => by
  rcases List.mem_cons.1 he with rfl | he
  · exact ⟨_, rfl⟩
  · cases List.mem_singleton.1 he; exact ⟨_, rfl⟩
theorem fixRun (ρ : Nat → Nat) (b : Nat) (hρ : ρ 256 = 256) (hb : 256 < b) : fixM ρ b [(.bool false, insF 256), (.bool true, remF 256)] := fun e he => by
  have hx : ∀ x ∈ [V.p 256 13 0 0], x.Below (Lt b) := fun x hx => by cases List.mem_singleton.1 hx; exact .p _ _ _ _ hb
  rcases List.mem_cons.1 he with rfl | he
  · refine ⟨?_, .fn _ _ _ hx (by simp)⟩
    simp only [insF, renV, renVs, hρ]
  · cases List.mem_singleton.1 he
    refine ⟨?_, .fn _ _ _ hx (by simp)⟩
    simp only [remF, renV, renVs, hρ]
set_option maxHeartbeats 2000000 in
theorem runC (ops : List WOp) (ho : OpsOk ops) (hl : ops.length ≤ 1000) : PSpecN Try.prog 37 [opsV ops] ((wAt ops ops.length).res) := by
  have hw := wInv_all ho hl
  have hw0 : wAt ops 0 = ⟨0, 0, 0, 0, ⟨0, [], [], [], 0, 0⟩, []⟩ := rfl
  refine pspecN tab_ok mix Try.func37 (by kernel_rfl) rfl rfl ?_
  ((conv => whnf); (repeat (first | ((first | refine z1 ?_ | refine z2 ?_ | refine z3 ?_ | refine idxB_at (by decide) rfl ?_ | refine atB_at (by decide) (by decide) ?_ | refine getB_lit _ rfl ?_ | refine z7 ?_); conv => whnf) | trivial)))
  refine callB newLadC ?_
  ((conv => whnf); (repeat (first | ((first | refine z1 ?_ | refine z2 ?_ | refine z3 ?_ | refine idxB_at (by decide) rfl ?_ | refine atB_at (by decide) (by decide) ?_ | refine getB_lit _ rfl ?_ | refine z7 ?_); conv => whnf) | trivial)))
  refine makeMapB ?_
  ((conv => whnf); (repeat (first | ((first | refine z1 ?_ | refine z2 ?_ | refine z3 ?_ | refine idxB_at (by decide) rfl ?_ | refine atB_at (by decide) (by decide) ?_ | refine getB_lit _ rfl ?_ | refine z7 ?_); conv => whnf) | trivial)))
  refine mapAddT tab_ok rfl rfl rfl rfl rfl boolK0 rfl (insF 256) (by rfl) [(.bool false, insF 256)] rfl ?_
  ((conv => whnf); (repeat (first | ((first | refine z1 ?_ | refine z2 ?_ | refine z3 ?_ | refine idxB_at (by decide) rfl ?_ | refine atB_at (by decide) (by decide) ?_ | refine getB_lit _ rfl ?_ | refine z7 ?_); conv => whnf) | trivial)))
  refine mapAddT tab_ok rfl rfl rfl rfl rfl (boolK1 _ _) rfl (remF 256) (by rfl) [(.bool false, insF 256), (.bool true, remF 256)] rfl ?_
  ((conv => whnf); (repeat (first | ((first | refine z1 ?_ | refine z2 ?_ | refine z3 ?_ | refine idxB_at (by decide) rfl ?_ | refine atB_at (by decide) (by decide) ?_ | refine getB_lit _ rfl ?_ | refine z7 ?_); conv => whnf) | trivial)))
  refine loopB tab_ok mix [3, 4, 5, 17, 18] [64, 384] (fun i : Nat => [(19, V.int i)]) (fun i => [(256, runR (wAt ops i) 1), (1, outD (wAt ops i))]) (fun i => i ≤ ops.length) (fun i => ops.length - i) [] 0 rfl (by omega) (by rw [hw0]; ((conv => whnf); (repeat (first | ((first | refine z1 ?_ | refine z2 ?_ | refine z3 ?_ | refine idxB_at (by decide) rfl ?_ | refine atB_at (by decide) (by decide) ?_ | refine getB_lit _ rfl ?_ | refine z7 ?_); conv => whnf) | trivial))); exact cb (.inr (fixRun _ _ rfl (by decide))) (by ((conv => whnf); (repeat (first | ((first | refine z1 ?_ | refine z2 ?_ | refine z3 ?_ | refine idxB_at (by decide) rfl ?_ | refine atB_at (by decide) (by decide) ?_ | refine getB_lit _ rfl ?_ | refine z7 ?_); conv => whnf) | trivial))))) ?_
  rintro i hi
  ((conv => whnf); (repeat (first | ((first | refine z1 ?_ | refine z2 ?_ | refine z3 ?_ | refine idxB_at (by decide) rfl ?_ | refine atB_at (by decide) (by decide) ?_ | refine getB_lit _ rfl ?_ | refine z7 ?_); conv => whnf) | trivial)))
  refine br_dec (fun g => ?_) (fun g => ?_) <;> ((conv => whnf); (repeat (first | ((first | refine z1 ?_ | refine z2 ?_ | refine z3 ?_ | refine idxB_at (by decide) rfl ?_ | refine atB_at (by decide) (by decide) ?_ | refine getB_lit _ rfl ?_ | refine z7 ?_); conv => whnf) | trivial)))
  · have g' : i < ops.length := by simpa using g
    obtain ⟨o, hx⟩ := get_lt g'
    have hwi := hw i hi
    have hz := hwi.sz (by omega)
    have hs : wAt ops (i + 1) = wMeas (wDo (wAt ops i) i o) := by rw [wAt, hx]
    have hins := hwi.ins
    have hpops := hwi.pops
    have hln := hwi.len
    have hnl := insN_le ops i
    have hout := hwi.out
    have hol : (wAt ops i).out.length < 1000000 := by rw [hout]; omega
    refine idxB hx ?_
    ((conv => whnf); (repeat (first | ((first | refine z1 ?_ | refine z2 ?_ | refine z3 ?_ | refine idxB_at (by decide) rfl ?_ | refine atB_at (by decide) (by decide) ?_ | refine getB_lit _ rfl ?_ | refine z7 ?_); conv => whnf) | trivial)))
    have hwn := hw (i + 1) (by omega)
    have hsm : ∀ w, wAt ops (i + 1) = wMeas w → w.q.Small := fun w e => by
      have := small_of hwn.rel.good (hwn.sz (by omega))
      rw [e] at this
      exact this
    cases hp : o.pop with
    | false =>
      have ed : wDo (wAt ops i) i o = wIns (wAt ops i) i o.time := by unfold wDo; rw [if_neg (by rw [hp]; simp)]
      rw [ed] at hs
      obtain ⟨f1, f2, _, _⟩ := wInv_ins ho (by omega) hx hwi
      refine lookT tab_ok rfl rfl rfl rfl rfl (boolK2 _ _ _ _) 0 (insF 256) rfl ?_
      ((conv => whnf); (repeat (first | ((first | refine z1 ?_ | refine z2 ?_ | refine z3 ?_ | refine idxB_at (by decide) rfl ?_ | refine atB_at (by decide) (by decide) ?_ | refine getB_lit _ rfl ?_ | refine z7 ?_); conv => whnf) | trivial)))
      rw [show V.agg [V.c (Value.bool false), V.c (Value.int IntKind.i64 o.time)] = WOp.v o by rw [WOp.v, hp]]
      refine callL (insertRC (wAt ops i) i o f1 f2 (by omega)) [some 256, some 1] [] rfl ?_
      ((conv => whnf); (repeat (first | ((first | refine z1 ?_ | refine z2 ?_ | refine z3 ?_ | refine idxB_at (by decide) rfl ?_ | refine atB_at (by decide) (by decide) ?_ | refine getB_lit _ rfl ?_ | refine z7 ?_); conv => whnf) | trivial)))
      refine callL (measureRC (wIns (wAt ops i) i o.time) (hsm _ hs)) [some 256, some 1] [] rfl ?_
      ((conv => whnf); (repeat (first | ((first | refine z1 ?_ | refine z2 ?_ | refine z3 ?_ | refine idxB_at (by decide) rfl ?_ | refine atB_at (by decide) (by decide) ?_ | refine getB_lit _ rfl ?_ | refine z7 ?_); conv => whnf) | trivial)))
      refine .mk [] (i + 1) (by omega) (by omega) ?_
      rw [hs]
      ((conv => whnf); (repeat (first | ((first | refine z1 ?_ | refine z2 ?_ | refine z3 ?_ | refine idxB_at (by decide) rfl ?_ | refine atB_at (by decide) (by decide) ?_ | refine getB_lit _ rfl ?_ | refine z7 ?_); conv => whnf) | trivial)))
      exact cb (.inr (fixRun _ _ rfl (by decide))) (by ((conv => whnf); (repeat (first | ((first | refine z1 ?_ | refine z2 ?_ | refine z3 ?_ | refine idxB_at (by decide) rfl ?_ | refine atB_at (by decide) (by decide) ?_ | refine getB_lit _ rfl ?_ | refine z7 ?_); conv => whnf) | trivial))))
    | true =>
      have ed : wDo (wAt ops i) i o = wPop (wAt ops i) := by unfold wDo; rw [if_pos hp]
      rw [ed] at hs
      obtain ⟨f1, f2⟩ := pop_asks hwi.rel.good hz
      refine lookT tab_ok rfl rfl rfl rfl rfl (boolK2 _ _ _ _) 1 (remF 256) rfl ?_
      ((conv => whnf); (repeat (first | ((first | refine z1 ?_ | refine z2 ?_ | refine z3 ?_ | refine idxB_at (by decide) rfl ?_ | refine atB_at (by decide) (by decide) ?_ | refine getB_lit _ rfl ?_ | refine z7 ?_); conv => whnf) | trivial)))
      rw [show V.agg [V.c (Value.bool true), V.c (Value.int IntKind.i64 o.time)] = WOp.v o by rw [WOp.v, hp]]
      refine callL (removeRC (wAt ops i) f1 f2 (by omega) hol i o) [some 256, some 1] [] rfl ?_
      ((conv => whnf); (repeat (first | ((first | refine z1 ?_ | refine z2 ?_ | refine z3 ?_ | refine idxB_at (by decide) rfl ?_ | refine atB_at (by decide) (by decide) ?_ | refine getB_lit _ rfl ?_ | refine z7 ?_); conv => whnf) | trivial)))
      refine callL (measureRC (wPop (wAt ops i)) (hsm _ hs)) [some 256, some 1984] [] rfl ?_
      ((conv => whnf); (repeat (first | ((first | refine z1 ?_ | refine z2 ?_ | refine z3 ?_ | refine idxB_at (by decide) rfl ?_ | refine atB_at (by decide) (by decide) ?_ | refine getB_lit _ rfl ?_ | refine z7 ?_); conv => whnf) | trivial)))
      refine .mk [(1, 1984)] (i + 1) (by omega) (by omega) ?_
      rw [hs]
      ((conv => whnf); (repeat (first | ((first | refine z1 ?_ | refine z2 ?_ | refine z3 ?_ | refine idxB_at (by decide) rfl ?_ | refine atB_at (by decide) (by decide) ?_ | refine getB_lit _ rfl ?_ | refine z7 ?_); conv => whnf) | trivial)))
      exact cb (.inr (fixRun _ _ rfl (by decide))) (by ((conv => whnf); (repeat (first | ((first | refine z1 ?_ | refine z2 ?_ | refine z3 ?_ | refine idxB_at (by decide) rfl ?_ | refine atB_at (by decide) (by decide) ?_ | refine getB_lit _ rfl ?_ | refine z7 ?_); conv => whnf) | trivial))))
  · have ei : i = ops.length := by simp at g; omega
    subst ei
    exact .frz (frzRes rfl)
end Go.Proofs.Ytmihhkcbbdpnaaa.Abs
/- Workloads: the reference of Run. -/
namespace Go.Proofs.Ytmihhkcbbdpnaaa.Abs
open Go.Proofs
set_option maxRecDepth 10000
set_option linter.unusedSimpArgs false
set_option linter.unusedVariables false

def metB (w : Wst) : B := .rows 6 [[V.int w.ins, V.int w.pops, V.int 0, V.int 0, V.int w.depth, V.int w.len]]
theorem wPop_yes {w : Wst} (g : (popG w.q).2.2 = true) : wPop w = { w with pops := w.pops + 1, q := (popG w.q).1, out := w.out ++ [(popG w.q).2.1] } := by unfold wPop; rw [if_pos g]
theorem wPop_no {w : Wst} (g : (popG w.q).2.2 = false) : wPop w = { w with q := (popG w.q).1 } := by unfold wPop; rw [if_neg (by rw [g]; simp)]
set_option maxHeartbeats 2000000 in
theorem refRunC (ops : List WOp) (ho : OpsOk ops) (hl : ops.length ≤ 1000) : PSpecN Try.prog 38 [opsV ops] ((wAt ops ops.length).res) := by
  have hw := wInv_all ho hl
  have hw0 : wAt ops 0 = ⟨0, 0, 0, 0, ⟨0, [], [], [], 0, 0⟩, []⟩ := rfl
  refine pspecN tab_ok mix Try.func38 (by kernel_rfl) rfl rfl ?_
  ((conv => whnf); (repeat (first | ((first | refine z1 ?_ | refine z2 ?_ | refine z3 ?_ | refine idxB_at (by decide) rfl ?_ | refine atB_at (by decide) (by decide) ?_ | refine getB_lit _ rfl ?_ | refine z7 ?_); conv => whnf) | trivial)))
  refine callB refNewLadC ?_
  ((conv => whnf); (repeat (first | ((first | refine z1 ?_ | refine z2 ?_ | refine z3 ?_ | refine idxB_at (by decide) rfl ?_ | refine atB_at (by decide) (by decide) ?_ | refine getB_lit _ rfl ?_ | refine z7 ?_); conv => whnf) | trivial)))
  refine loopB tab_ok mix [0, 3, 4, 6] [64] (fun i : Nat => [(5, .ac 1 3 (wAt ops i).out.length), (7, V.int i)]) (fun i => [(192, ladB (wAt ops i).q), (384, metB (wAt ops i)), (1, outD (wAt ops i))]) (fun i => i ≤ ops.length) (fun i => ops.length - i) [] 0 rfl (by omega) (by rw [hw0]; ((conv => whnf); (repeat (first | ((first | refine z1 ?_ | refine z2 ?_ | refine z3 ?_ | refine idxB_at (by decide) rfl ?_ | refine atB_at (by decide) (by decide) ?_ | refine getB_lit _ rfl ?_ | refine z7 ?_); conv => whnf) | trivial)))) ?_
  rintro i hi
  ((conv => whnf); (repeat (first | ((first | refine z1 ?_ | refine z2 ?_ | refine z3 ?_ | refine idxB_at (by decide) rfl ?_ | refine atB_at (by decide) (by decide) ?_ | refine getB_lit _ rfl ?_ | refine z7 ?_); conv => whnf) | trivial)))
  refine br_dec (fun g => ?_) (fun g => ?_) <;> ((conv => whnf); (repeat (first | ((first | refine z1 ?_ | refine z2 ?_ | refine z3 ?_ | refine idxB_at (by decide) rfl ?_ | refine atB_at (by decide) (by decide) ?_ | refine getB_lit _ rfl ?_ | refine z7 ?_); conv => whnf) | trivial)))
  · have g' : i < ops.length := by simpa using g
    obtain ⟨o, hx⟩ := get_lt g'
    have hwi := hw i hi
    have hz := hwi.sz (by omega)
    have hs : wAt ops (i + 1) = wMeas (wDo (wAt ops i) i o) := by rw [wAt, hx]
    have hins := hwi.ins
    have hpops := hwi.pops
    have hln := hwi.len
    have hnl := insN_le ops i
    have hout := hwi.out
    have hol : (wAt ops i).out.length < 1000000 := by rw [hout]; omega
    have hwn := hw (i + 1) (by omega)
    have hsm : ∀ w, wAt ops (i + 1) = wMeas w → w.q.Small := fun w e => by
      have := small_of hwn.rel.good (hwn.sz (by omega))
      rw [e] at this
      exact this
    refine idxB hx ?_
    ((conv => whnf); (repeat (first | ((first | refine z1 ?_ | refine z2 ?_ | refine z3 ?_ | refine idxB_at (by decide) rfl ?_ | refine atB_at (by decide) (by decide) ?_ | refine getB_lit _ rfl ?_ | refine z7 ?_); conv => whnf) | trivial)))
    cases hp : o.pop with
    | false =>
      have ed : wDo (wAt ops i) i o = wIns (wAt ops i) i o.time := by unfold wDo; rw [if_neg (by rw [hp]; simp)]
      rw [ed] at hs
      obtain ⟨f1, f2, f3, f4⟩ := wInv_ins ho (by omega) hx hwi
      ((conv => whnf); (repeat (first | ((first | refine z1 ?_ | refine z2 ?_ | refine z3 ?_ | refine idxB_at (by decide) rfl ?_ | refine atB_at (by decide) (by decide) ?_ | refine getB_lit _ rfl ?_ | refine z7 ?_); conv => whnf) | trivial)))
      refine idxB hx ?_
      ((conv => whnf); (repeat (first | ((first | refine z1 ?_ | refine z2 ?_ | refine z3 ?_ | refine idxB_at (by decide) rfl ?_ | refine atB_at (by decide) (by decide) ?_ | refine getB_lit _ rfl ?_ | refine z7 ?_); conv => whnf) | trivial)))
      refine dcallB (refInsertC (wAt ops i).q ⟨o.time, i, 0⟩ f1 f3 f4) ?_
      ((conv => whnf); (repeat (first | ((first | refine z1 ?_ | refine z2 ?_ | refine z3 ?_ | refine idxB_at (by decide) rfl ?_ | refine atB_at (by decide) (by decide) ?_ | refine getB_lit _ rfl ?_ | refine z7 ?_); conv => whnf) | trivial)))
      refine dcallB (refLenLadC (insLad (wAt ops i).q ⟨o.time, i, 0⟩) (hsm _ hs)) ?_
      ((conv => whnf); (repeat (first | ((first | refine z1 ?_ | refine z2 ?_ | refine z3 ?_ | refine idxB_at (by decide) rfl ?_ | refine atB_at (by decide) (by decide) ?_ | refine getB_lit _ rfl ?_ | refine z7 ?_); conv => whnf) | trivial)))
      refine .mk [] (i + 1) (by omega) (by omega) ?_
      rw [hs]
      ((conv => whnf); (repeat (first | ((first | refine z1 ?_ | refine z2 ?_ | refine z3 ?_ | refine idxB_at (by decide) rfl ?_ | refine atB_at (by decide) (by decide) ?_ | refine getB_lit _ rfl ?_ | refine z7 ?_); conv => whnf) | trivial)))
      refine cb (by first | (simp [wMeas, wIns]; done) | (simp [wMeas, wIns]; rfl)) ?_
      ((conv => whnf); (repeat (first | ((first | refine z1 ?_ | refine z2 ?_ | refine z3 ?_ | refine idxB_at (by decide) rfl ?_ | refine atB_at (by decide) (by decide) ?_ | refine getB_lit _ rfl ?_ | refine z7 ?_); conv => whnf) | trivial)))
      all_goals exact cb (by first | (simp [wMeas, wIns]; done) | (simp [wMeas, wIns]; rfl)) (by ((conv => whnf); (repeat (first | ((first | refine z1 ?_ | refine z2 ?_ | refine z3 ?_ | refine idxB_at (by decide) rfl ?_ | refine atB_at (by decide) (by decide) ?_ | refine getB_lit _ rfl ?_ | refine z7 ?_); conv => whnf) | trivial))))
    | true =>
      have ed : wDo (wAt ops i) i o = wPop (wAt ops i) := by unfold wDo; rw [if_pos hp]
      rw [ed] at hs
      obtain ⟨f1, f2⟩ := pop_asks hwi.rel.good hz
      ((conv => whnf); (repeat (first | ((first | refine z1 ?_ | refine z2 ?_ | refine z3 ?_ | refine idxB_at (by decide) rfl ?_ | refine atB_at (by decide) (by decide) ?_ | refine getB_lit _ rfl ?_ | refine z7 ?_); conv => whnf) | trivial)))
      refine callB (refPopC _ (wAt ops i).q f1 f2) ?_
      ((conv => whnf); (repeat (first | ((first | refine z1 ?_ | refine z2 ?_ | refine z3 ?_ | refine idxB_at (by decide) rfl ?_ | refine atB_at (by decide) (by decide) ?_ | refine getB_lit _ rfl ?_ | refine z7 ?_); conv => whnf) | trivial)))
      refine brK_mk (fun g => ?_) (fun g => ?_) <;> ((conv => whnf); (repeat (first | ((first | refine z1 ?_ | refine z2 ?_ | refine z3 ?_ | refine idxB_at (by decide) rfl ?_ | refine atB_at (by decide) (by decide) ?_ | refine getB_lit _ rfl ?_ | refine z7 ?_); conv => whnf) | trivial)))
      · rw [wPop_yes (show (popG (wAt ops i).q).2.2 = true from g)] at hs
        refine dcallB (refLenLadC (popG (wAt ops i).q).1 (hsm _ hs)) ?_
        ((conv => whnf); (repeat (first | ((first | refine z1 ?_ | refine z2 ?_ | refine z3 ?_ | refine idxB_at (by decide) rfl ?_ | refine atB_at (by decide) (by decide) ?_ | refine getB_lit _ rfl ?_ | refine z7 ?_); conv => whnf) | trivial)))
        refine .mk [(1, 2176)] (i + 1) (by omega) (by omega) ?_
        rw [hs]
        ((conv => whnf); (repeat (first | ((first | refine z1 ?_ | refine z2 ?_ | refine z3 ?_ | refine idxB_at (by decide) rfl ?_ | refine atB_at (by decide) (by decide) ?_ | refine getB_lit _ rfl ?_ | refine z7 ?_); conv => whnf) | trivial)))
        all_goals refine cb (by first | (simp [wMeas]; done) | (simp [wMeas]; rfl)) ?_
        all_goals ((conv => whnf); (repeat (first | ((first | refine z1 ?_ | refine z2 ?_ | refine z3 ?_ | refine idxB_at (by decide) rfl ?_ | refine atB_at (by decide) (by decide) ?_ | refine getB_lit _ rfl ?_ | refine z7 ?_); conv => whnf) | trivial)))
        all_goals refine cb (by first | (simp [wMeas]; done) | (simp [wMeas]; rfl) | rfl | (simp [wMeas, Item.row]; exact ⟨rfl, rfl, rfl⟩)) ?_
        all_goals ((conv => whnf); (repeat (first | ((first | refine z1 ?_ | refine z2 ?_ | refine z3 ?_ | refine idxB_at (by decide) rfl ?_ | refine atB_at (by decide) (by decide) ?_ | refine getB_lit _ rfl ?_ | refine z7 ?_); conv => whnf) | trivial)))
        all_goals refine cb (by first | (simp [wMeas]; done) | (simp [wMeas]; rfl) | rfl | (simp [wMeas, Item.row]; exact ⟨rfl, rfl, rfl⟩)) ?_
        all_goals ((conv => whnf); (repeat (first | ((first | refine z1 ?_ | refine z2 ?_ | refine z3 ?_ | refine idxB_at (by decide) rfl ?_ | refine atB_at (by decide) (by decide) ?_ | refine getB_lit _ rfl ?_ | refine z7 ?_); conv => whnf) | trivial)))
        all_goals exact cb (by first | (simp [wMeas]; done) | (simp [wMeas]; rfl) | rfl | (simp [wMeas, Item.row]; exact ⟨rfl, rfl, rfl⟩)) (by ((conv => whnf); (repeat (first | ((first | refine z1 ?_ | refine z2 ?_ | refine z3 ?_ | refine idxB_at (by decide) rfl ?_ | refine atB_at (by decide) (by decide) ?_ | refine getB_lit _ rfl ?_ | refine z7 ?_); conv => whnf) | trivial))))
      · rw [wPop_no (show (popG (wAt ops i).q).2.2 = false from g)] at hs
        refine dcallB (refLenLadC (popG (wAt ops i).q).1 (hsm _ hs)) ?_
        ((conv => whnf); (repeat (first | ((first | refine z1 ?_ | refine z2 ?_ | refine z3 ?_ | refine idxB_at (by decide) rfl ?_ | refine atB_at (by decide) (by decide) ?_ | refine getB_lit _ rfl ?_ | refine z7 ?_); conv => whnf) | trivial)))
        refine .mk [] (i + 1) (by omega) (by omega) ?_
        rw [hs]
        ((conv => whnf); (repeat (first | ((first | refine z1 ?_ | refine z2 ?_ | refine z3 ?_ | refine idxB_at (by decide) rfl ?_ | refine atB_at (by decide) (by decide) ?_ | refine getB_lit _ rfl ?_ | refine z7 ?_); conv => whnf) | trivial)))
        refine cb (by first | (simp [wMeas]; done) | (simp [wMeas]; rfl) | rfl) ?_
        ((conv => whnf); (repeat (first | ((first | refine z1 ?_ | refine z2 ?_ | refine z3 ?_ | refine idxB_at (by decide) rfl ?_ | refine atB_at (by decide) (by decide) ?_ | refine getB_lit _ rfl ?_ | refine z7 ?_); conv => whnf) | trivial)))
        all_goals exact cb (by first | (simp [wMeas]; done) | (simp [wMeas]; rfl) | rfl) (by ((conv => whnf); (repeat (first | ((first | refine z1 ?_ | refine z2 ?_ | refine z3 ?_ | refine idxB_at (by decide) rfl ?_ | refine atB_at (by decide) (by decide) ?_ | refine getB_lit _ rfl ?_ | refine z7 ?_); conv => whnf) | trivial))))
  · have ei : i = ops.length := by simp at g; omega
    subst ei
    exact .frz (frzRes rfl)
end Go.Proofs.Ytmihhkcbbdpnaaa.Abs
/- slices.Insert of one item into a slice that begins within its block. -/
namespace Go.Proofs.Ytmihhkcbbdpnaaa.Abs
open Go.Proofs
set_option maxRecDepth 10000
set_option linter.unusedSimpArgs false
set_option linter.unusedVariables false
theorem takeP {α : Type} (P M : List α) (k : Nat) : (P ++ M).take (P.length + k) = P ++ M.take k := by rw [List.take_length_add_append]
theorem dropP {α : Type} (P M : List α) (k : Nat) : (P ++ M).drop (P.length + k) = M.drop k := by rw [List.drop_length_add_append]
theorem dropP0 {α : Type} (P M : List α) : (P ++ M).drop P.length = M := by rw [List.drop_left]
/-- in place: the rest moved up by one, then x put in -/
theorem insRowsP {α : Type} (P M : List α) (i : Nat) (hi : i < M.length) (x : α) :
    ((P ++ M).take (P.length + (i + 1)) ++ (((P ++ M).drop (P.length + i)).take (M.length - i) ++ (P ++ M).drop (P.length + (i + 1) + (M.length - i)))).take (P.length + i) ++ ([x] ++ ((P ++ M).take (P.length + (i + 1)) ++ (((P ++ M).drop (P.length + i)).take (M.length - i) ++ (P ++ M).drop (P.length + (i + 1) + (M.length - i)))).drop (P.length + i + 1)) = P ++ (M.take i ++ x :: M.drop i) := by
  have h1 := takeP P M (i + 1)
  have h2 := dropP P M i
  have h3 : (P ++ M).drop (P.length + (i + 1) + (M.length - i)) = [] := List.drop_eq_nil_of_le (by simp; omega)
  have h4 : (M.drop i).take (M.length - i) = M.drop i := List.take_of_length_le (by rw [List.length_drop]; omega)
  rw [h1, h2, h3, h4, List.append_nil, List.append_assoc]
  rw [takeP, Nat.add_assoc, dropP]
  have hl : (M.take (i + 1)).length = i + 1 := by rw [List.length_take]; omega
  have e : (M.take (i + 1) ++ M.drop i).drop (i + 1) = M.drop i := List.drop_left' hl
  have f : (M.take (i + 1) ++ M.drop i).take i = M.take i := by
    rw [List.take_append_of_le_length (by omega), List.take_take]
    congr 1; omega
  rw [e, f, List.append_assoc]; rfl
set_option maxHeartbeats 2000000 in
theorem insertItemP (P : List (List D)) (R : List Item) (i : Nat) (x : Item) (hi : i ≤ R.length) (h0 : P ++ R.map Item.row ≠ []) (hl : P.length + R.length < 1073741824) :
    LSpec Try.prog 88 [.sl 0 3 P.length R.length, V.int i, .lst 3 [Item.row x] true] [(0, .dat 3 (P ++ R.map Item.row))] 1 (.ac 1 3 (R.length + 1)) [(1, .dat 3 ((R.take i ++ x :: R.drop i).map Item.row))] 2 := by
  refine LSpec.roomAt fun cap hcap => ?_
  have e1 : [Item.row x].length = 1 := rfl
  have ne : ∀ {l : List (List D)}, 0 < l.length → l ≠ [] := fun h e => by rw [e] at h; simp at h
  have hlm : (R.map Item.row).length = R.length := List.length_map _
  have hd0 : (P ++ R.map Item.row).drop P.length = R.map Item.row := dropP0 P _
  have hPl : (P ++ R.map Item.row).length = P.length + R.length := by simp
  have hres : (R.take i ++ x :: R.drop i).map Item.row = (R.map Item.row).take i ++ Item.row x :: (R.map Item.row).drop i := by simp
  rw [hres]
  generalize hM : R.map Item.row = M at *
  generalize hn : R.length = n at *
  refine lspecX tab_ok mix Try.func88 (by kernel_rfl) (by rfl) (by rfl) (by rfl) (by rfl) ?_
  ((conv => whnf); (repeat (first | ((first | refine z1 ?_ | refine z2 ?_ | refine z3 ?_ | refine idxB_at (by decide) rfl ?_ | refine atB_at (by decide) (by decide) ?_ | refine getB_lit _ rfl ?_ | refine z7 ?_); conv => whnf) | trivial)))
  refine cutSx tab_ok _ rfl i n rfl ⟨_, rfl⟩ rfl hi hcap ?_
  ((conv => whnf); (repeat (first | ((first | refine z1 ?_ | refine z2 ?_ | refine z3 ?_ | refine idxB_at (by decide) rfl ?_ | refine atB_at (by decide) (by decide) ?_ | refine getB_lit _ rfl ?_ | refine z7 ?_); conv => whnf) | trivial)))
  refine asSl tab_ok ?_
  ((conv => whnf); (repeat (first | ((first | refine z1 ?_ | refine z2 ?_ | refine z3 ?_ | refine idxB_at (by decide) rfl ?_ | refine atB_at (by decide) (by decide) ?_ | refine getB_lit _ rfl ?_ | refine z7 ?_); conv => whnf) | trivial)))
  refine br_dec (fun h => ?_) (fun h => ?_) <;> ((conv => whnf); (repeat (first | ((first | refine z1 ?_ | refine z2 ?_ | refine z3 ?_ | refine idxB_at (by decide) rfl ?_ | refine atB_at (by decide) (by decide) ?_ | refine getB_lit _ rfl ?_ | refine z7 ?_); conv => whnf) | trivial)))
  · have e : i = n := by omega
    subst e
    refine asSl tab_ok ?_
    ((conv => whnf); (repeat (first | ((first | refine z1 ?_ | refine z2 ?_ | refine z3 ?_ | refine idxB_at (by decide) rfl ?_ | refine atB_at (by decide) (by decide) ?_ | refine getB_lit _ rfl ?_ | refine z7 ?_); conv => whnf) | trivial)))
    refine cb ⟨h0, by omega, by simp; omega⟩ ?_
    ((conv => whnf); (repeat (first | ((first | refine z1 ?_ | refine z2 ?_ | refine z3 ?_ | refine idxB_at (by decide) rfl ?_ | refine atB_at (by decide) (by decide) ?_ | refine getB_lit _ rfl ?_ | refine z7 ?_); conv => whnf) | trivial)))
    refine .mk [(1, 1152)] ?_
    ((conv => whnf); (repeat (first | ((first | refine z1 ?_ | refine z2 ?_ | refine z3 ?_ | refine idxB_at (by decide) rfl ?_ | refine atB_at (by decide) (by decide) ?_ | refine getB_lit _ rfl ?_ | refine z7 ?_); conv => whnf) | trivial)))
    all_goals (refine cb ?_ (by ((conv => whnf); (repeat (first | ((first | refine z1 ?_ | refine z2 ?_ | refine z3 ?_ | refine idxB_at (by decide) rfl ?_ | refine atB_at (by decide) (by decide) ?_ | refine getB_lit _ rfl ?_ | refine z7 ?_); conv => whnf) | trivial)))); rw [hd0]; simp [List.take_of_length_le, hlm])
  · have hin : i < n := by omega
    refine capB tab_ok _ rfl rfl ?_
    ((conv => whnf); (repeat (first | ((first | refine z1 ?_ | refine z2 ?_ | refine z3 ?_ | refine idxB_at (by decide) rfl ?_ | refine atB_at (by decide) (by decide) ?_ | refine getB_lit _ rfl ?_ | refine z7 ?_); conv => whnf) | trivial)))
    refine br_dec (fun hg => ?_) (fun hg => ?_) <;> ((conv => whnf); (repeat (first | ((first | refine z1 ?_ | refine z2 ?_ | refine z3 ?_ | refine idxB_at (by decide) rfl ?_ | refine atB_at (by decide) (by decide) ?_ | refine getB_lit _ rfl ?_ | refine z7 ?_); conv => whnf) | trivial)))
    · refine cutSx tab_ok _ rfl 0 i rfl rfl ⟨_, rfl⟩ (by omega) (by omega) ?_
      ((conv => whnf); (repeat (first | ((first | refine z1 ?_ | refine z2 ?_ | refine z3 ?_ | refine idxB_at (by decide) rfl ?_ | refine atB_at (by decide) (by decide) ?_ | refine getB_lit _ rfl ?_ | refine z7 ?_); conv => whnf) | trivial)))
      refine appendZ tab_ok _ _ [.c (.int .i64 0), .c (.int .i64 0), .c (.int .i64 0)] rfl (.c _ rfl (.c _ rfl (.c _ rfl .nil))) rfl rfl (n + 1 - i) rfl (kq := .i64) (congrArg (fun z : Int => V.c (.int .i64 z)) (by omega : (n : Int) + ([Item.row x].length : Int) - (i : Int) = ((n + 1 - i : Nat) : Int))) rfl ⟨h0, by omega, by simp at hg ⊢; omega, by omega, by omega⟩ rfl rfl ?_
      ((conv => whnf); (repeat (first | ((first | refine z1 ?_ | refine z2 ?_ | refine z3 ?_ | refine idxB_at (by decide) rfl ?_ | refine atB_at (by decide) (by decide) ?_ | refine getB_lit _ rfl ?_ | refine z7 ?_); conv => whnf) | trivial)))
      refine slB i (n + 1) rfl (by show _ = _; omega) (by omega) ?_
      ((conv => whnf); (repeat (first | ((first | refine z1 ?_ | refine z2 ?_ | refine z3 ?_ | refine idxB_at (by decide) rfl ?_ | refine atB_at (by decide) (by decide) ?_ | refine getB_lit _ rfl ?_ | refine z7 ?_); conv => whnf) | trivial)))
      refine copyB tab_ok _ rfl 1 rfl rfl ⟨ne (by simp; omega), by simp; omega, by simp; omega⟩ (.lst _ _ (by simp)) ?_
      ((conv => whnf); (repeat (first | ((first | refine z1 ?_ | refine z2 ?_ | refine z3 ?_ | refine idxB_at (by decide) rfl ?_ | refine atB_at (by decide) (by decide) ?_ | refine getB_lit _ rfl ?_ | refine z7 ?_); conv => whnf) | trivial)))
      refine slB (i + 1) (n + 1) (by show (i : Int) + ([Item.row x].length : Int) = _; omega) (by show _ = _; omega) (by omega) ?_
      ((conv => whnf); (repeat (first | ((first | refine z1 ?_ | refine z2 ?_ | refine z3 ?_ | refine idxB_at (by decide) rfl ?_ | refine atB_at (by decide) (by decide) ?_ | refine getB_lit _ rfl ?_ | refine z7 ?_); conv => whnf) | trivial)))
      refine dcutSx tab_ok _ rfl i n rfl ⟨_, rfl⟩ rfl ⟨by omega, by omega⟩ ?_
      ((conv => whnf); (repeat (first | ((first | refine z1 ?_ | refine z2 ?_ | refine z3 ?_ | refine idxB_at (by decide) rfl ?_ | refine atB_at (by decide) (by decide) ?_ | refine getB_lit _ rfl ?_ | refine z7 ?_); conv => whnf) | trivial)))
      refine dcopyB tab_ok _ rfl (n - i) rfl rfl ⟨ne (by simp; omega), by simp; omega, by omega⟩ (.sx _ _ _ _ (P ++ M) rfl h0 (by omega) (by omega)) ?_
      ((conv => whnf); (repeat (first | ((first | refine z1 ?_ | refine z2 ?_ | refine z3 ?_ | refine idxB_at (by decide) rfl ?_ | refine atB_at (by decide) (by decide) ?_ | refine getB_lit _ rfl ?_ | refine z7 ?_); conv => whnf) | trivial)))
      refine .mk [(1, 1920)] ?_
      ((conv => whnf); (repeat (first | ((first | refine z1 ?_ | refine z2 ?_ | refine z3 ?_ | refine idxB_at (by decide) rfl ?_ | refine atB_at (by decide) (by decide) ?_ | refine getB_lit _ rfl ?_ | refine z7 ?_); conv => whnf) | trivial)))
      refine cb ?_ trivial
      have := insRows1 M i (by omega) (Item.row x) (List.replicate (n + 1 - i) [.c (.int .i64 0), .c (.int .i64 0), .c (.int .i64 0)]) (by simp; omega)
      simp only [Nat.zero_add, Nat.sub_zero, Nat.add_zero, List.take_succ_cons, List.take_zero]
      rw [hlm] at this
      rw [hd0, dropP, this]
    · refine cutSl tab_ok _ rfl 0 (n + 1) rfl rfl ⟨.i64, congrArg (fun z : Int => V.c (.int .i64 z)) (by omega : (n : Int) + ([Item.row x].length : Int) = ((n + 1 : Nat) : Int))⟩ ⟨by omega, by omega⟩ ?_
      ((conv => whnf); (repeat (first | ((first | refine z1 ?_ | refine z2 ?_ | refine z3 ?_ | refine idxB_at (by decide) rfl ?_ | refine atB_at (by decide) (by decide) ?_ | refine getB_lit _ rfl ?_ | refine z7 ?_); conv => whnf) | trivial)))
      refine slB (i + 1) (n + 1) (by show (i : Int) + ([Item.row x].length : Int) = _; omega) (by show _ = _; omega) (by omega) ?_
      ((conv => whnf); (repeat (first | ((first | refine z1 ?_ | refine z2 ?_ | refine z3 ?_ | refine idxB_at (by decide) rfl ?_ | refine atB_at (by decide) (by decide) ?_ | refine getB_lit _ rfl ?_ | refine z7 ?_); conv => whnf) | trivial)))
      refine overlapsB (ε := ty75) (tS := 61) (tR := 4) tab_ok Try.func120 (by kernel_rfl) (by kernel_rfl) (by kernel_rfl) (by kernel_rfl) rfl (.sl _ _) rfl h0 (by decide) (by omega) ?_
      ((conv => whnf); (repeat (first | ((first | refine z1 ?_ | refine z2 ?_ | refine z3 ?_ | refine idxB_at (by decide) rfl ?_ | refine atB_at (by decide) (by decide) ?_ | refine getB_lit _ rfl ?_ | refine z7 ?_); conv => whnf) | trivial)))
      refine slB (i + 1) (n + 1) (by show (i : Int) + ([Item.row x].length : Int) = _; omega) (by show _ = _; omega) (by omega) ?_
      ((conv => whnf); (repeat (first | ((first | refine z1 ?_ | refine z2 ?_ | refine z3 ?_ | refine idxB_at (by decide) rfl ?_ | refine atB_at (by decide) (by decide) ?_ | refine getB_lit _ rfl ?_ | refine z7 ?_); conv => whnf) | trivial)))
      refine slB i (n + 1) rfl (by show _ = _; omega) (by omega) ?_
      ((conv => whnf); (repeat (first | ((first | refine z1 ?_ | refine z2 ?_ | refine z3 ?_ | refine idxB_at (by decide) rfl ?_ | refine atB_at (by decide) (by decide) ?_ | refine getB_lit _ rfl ?_ | refine z7 ?_); conv => whnf) | trivial)))
      refine dcopyB tab_ok _ rfl (n - i) rfl rfl ⟨h0, by omega, by omega⟩ (.sl _ _ _ (P ++ M) rfl h0 (by omega) (by omega)) ?_
      ((conv => whnf); (repeat (first | ((first | refine z1 ?_ | refine z2 ?_ | refine z3 ?_ | refine idxB_at (by decide) rfl ?_ | refine atB_at (by decide) (by decide) ?_ | refine getB_lit _ rfl ?_ | refine z7 ?_); conv => whnf) | trivial)))
      refine slB i (n + 1) rfl (by show _ = _; omega) (by omega) ?_
      ((conv => whnf); (repeat (first | ((first | refine z1 ?_ | refine z2 ?_ | refine z3 ?_ | refine idxB_at (by decide) rfl ?_ | refine atB_at (by decide) (by decide) ?_ | refine getB_lit _ rfl ?_ | refine z7 ?_); conv => whnf) | trivial)))
      refine copyB tab_ok _ rfl 1 rfl rfl ⟨ne (by simp; omega), by simp; omega, by simp; omega⟩ (.lst _ _ (by simp)) ?_
      ((conv => whnf); (repeat (first | ((first | refine z1 ?_ | refine z2 ?_ | refine z3 ?_ | refine idxB_at (by decide) rfl ?_ | refine atB_at (by decide) (by decide) ?_ | refine getB_lit _ rfl ?_ | refine z7 ?_); conv => whnf) | trivial)))
      have hrow := insRowsP P M i (by omega) (Item.row x)
      refine .sem (RetS.reb rfl ?_ (by intro e; simp at e) (by omega) ⟨by omega, by omega⟩)
      rw [hlm] at hrow
      simp only [Nat.add_zero, List.take_succ_cons, List.take_zero, List.append_nil]
      have hz : P.length + 0 = P.length := rfl
      rw [hrow, dropP0]
end Go.Proofs.Ytmihhkcbbdpnaaa.Abs
/- Workloads: the expected results, by a sorted list. -/
namespace Go.Proofs.Ytmihhkcbbdpnaaa.Abs
open Go.Proofs
set_option maxRecDepth 10000
set_option linter.unusedSimpArgs false
set_option linter.unusedVariables false

theorem searchItemsN (l : List Item) (e : Item) (hl : l.length < 4611686018427387904) (hm : MonoI l e) :
    PSpecN Try.prog 86 [itemsV l, e.v, .fn (.func 87) [] []] (.tup [V.int (posI l e), V.bool (foundI l e)]) := by
  refine pspecN tab_ok mix Try.func86 (by kernel_rfl) rfl rfl ?_
  ((conv => whnf); (repeat (first | ((first | refine z1 ?_ | refine z2 ?_ | refine z3 ?_ | refine idxB_at (by decide) rfl ?_ | refine atB_at (by decide) (by decide) ?_ | refine getB_lit _ rfl ?_ | refine z7 ?_); conv => whnf) | trivial)))
  refine loopB2 tab_ok mix [0, 2, 4, 8] [0] (fun (i j : Nat) => [(9, V.int i), (10, V.int j)]) (fun i j => []) (fun i j => i ≤ j ∧ j ≤ l.length ∧ (∀ (k : Nat) (x : Item), k < i → l[k]? = some x → cmpItem x e < 0) ∧ (∀ (k : Nat) (x : Item), j ≤ k → l[k]? = some x → ¬ cmpItem x e < 0)) (fun i j => j - i) [] 0 l.length rfl ⟨by omega, by omega, by intro k x hk; omega, fun k x hk hx => by have := (List.getElem?_eq_some_iff.1 hx).1; omega⟩ (by ((conv => whnf); (repeat (first | ((first | refine z1 ?_ | refine z2 ?_ | refine z3 ?_ | refine idxB_at (by decide) rfl ?_ | refine atB_at (by decide) (by decide) ?_ | refine getB_lit _ rfl ?_ | refine z7 ?_); conv => whnf) | trivial)))) ?_
  rintro i j ⟨h1, h2, h3, h4⟩
  ((conv => whnf); (repeat (first | ((first | refine z1 ?_ | refine z2 ?_ | refine z3 ?_ | refine idxB_at (by decide) rfl ?_ | refine atB_at (by decide) (by decide) ?_ | refine getB_lit _ rfl ?_ | refine z7 ?_); conv => whnf) | trivial)))
  refine br_dec (fun g => ?_) (fun g => ?_) <;> ((conv => whnf); (repeat (first | ((first | refine z1 ?_ | refine z2 ?_ | refine z3 ?_ | refine idxB_at (by decide) rfl ?_ | refine atB_at (by decide) (by decide) ?_ | refine getB_lit _ rfl ?_ | refine z7 ?_); conv => whnf) | trivial)))
  · refine wrUi (by omega) ?_
    ((conv => whnf); (repeat (first | ((first | refine z1 ?_ | refine z2 ?_ | refine z3 ?_ | refine idxB_at (by decide) rfl ?_ | refine atB_at (by decide) (by decide) ?_ | refine getB_lit _ rfl ?_ | refine z7 ?_); conv => whnf) | trivial)))
    refine halfI ((i + j) / 2) rfl (by omega) ?_
    ((conv => whnf); (repeat (first | ((first | refine z1 ?_ | refine z2 ?_ | refine z3 ?_ | refine idxB_at (by decide) rfl ?_ | refine atB_at (by decide) (by decide) ?_ | refine getB_lit _ rfl ?_ | refine z7 ?_); conv => whnf) | trivial)))
    obtain ⟨x, hx⟩ := get_lt (show (i + j) / 2 < l.length by omega)
    refine idxB hx ?_
    ((conv => whnf); (repeat (first | ((first | refine z1 ?_ | refine z2 ?_ | refine z3 ?_ | refine idxB_at (by decide) rfl ?_ | refine atB_at (by decide) (by decide) ?_ | refine getB_lit _ rfl ?_ | refine z7 ?_); conv => whnf) | trivial)))
    refine dcallB (compareItems x e) ?_
    ((conv => whnf); (repeat (first | ((first | refine z1 ?_ | refine z2 ?_ | refine z3 ?_ | refine idxB_at (by decide) rfl ?_ | refine atB_at (by decide) (by decide) ?_ | refine getB_lit _ rfl ?_ | refine z7 ?_); conv => whnf) | trivial)))
    refine br_dec (fun k => ?_) (fun k => ?_) <;> ((conv => whnf); (repeat (first | ((first | refine z1 ?_ | refine z2 ?_ | refine z3 ?_ | refine idxB_at (by decide) rfl ?_ | refine atB_at (by decide) (by decide) ?_ | refine getB_lit _ rfl ?_ | refine z7 ?_); conv => whnf) | trivial)))
    · refine .mk [] ((i + j) / 2 + 1) j ⟨by omega, h2, fun q y hq hy => hm q _ y x (by omega) hy hx k, h4⟩ (by dsimp only; omega) ?_
      ((conv => whnf); (repeat (first | ((first | refine z1 ?_ | refine z2 ?_ | refine z3 ?_ | refine idxB_at (by decide) rfl ?_ | refine atB_at (by decide) (by decide) ?_ | refine getB_lit _ rfl ?_ | refine z7 ?_); conv => whnf) | trivial)))
    · refine .mk [] i ((i + j) / 2) ⟨by omega, by omega, h3, fun q y hq hy hc => k (hm _ q x y hq hx hy hc)⟩ (by dsimp only; omega) ?_
      ((conv => whnf); (repeat (first | ((first | refine z1 ?_ | refine z2 ?_ | refine z3 ?_ | refine idxB_at (by decide) rfl ?_ | refine atB_at (by decide) (by decide) ?_ | refine getB_lit _ rfl ?_ | refine z7 ?_); conv => whnf) | trivial)))
  · have e1 : i = j := by omega
    subst e1
    have hp : posI l e = i := posI_of h2 h3 fun x hx => h4 i x (by omega) hx
    refine br_dec (fun k => ?_) (fun k => ?_) <;> ((conv => whnf); (repeat (first | ((first | refine z1 ?_ | refine z2 ?_ | refine z3 ?_ | refine idxB_at (by decide) rfl ?_ | refine atB_at (by decide) (by decide) ?_ | refine getB_lit _ rfl ?_ | refine z7 ?_); conv => whnf) | trivial)))
    · simp at k
      obtain ⟨x, hx⟩ := get_lt k
      refine idxB hx ?_
      ((conv => whnf); (repeat (first | ((first | refine z1 ?_ | refine z2 ?_ | refine z3 ?_ | refine idxB_at (by decide) rfl ?_ | refine atB_at (by decide) (by decide) ?_ | refine getB_lit _ rfl ?_ | refine z7 ?_); conv => whnf) | trivial)))
      refine dcallB (compareItems x e) ?_
      ((conv => whnf); (repeat (first | ((first | refine z1 ?_ | refine z2 ?_ | refine z3 ?_ | refine idxB_at (by decide) rfl ?_ | refine atB_at (by decide) (by decide) ?_ | refine getB_lit _ rfl ?_ | refine z7 ?_); conv => whnf) | trivial)))
      exact .flat (by simp only [foundI, hp, hx]) rfl
    · simp at k
      exact .flat (by simp only [foundI, hp]; rw [List.getElem?_eq_none (by omega)]) rfl
theorem mAt_step {ops : List WOp} {i : Nat} {o : WOp} (hx : ops[i]? = some o) : mAt ops (i + 1) = mDo (mAt ops i) i o := by rw [mAt, hx]
theorem mAt_uq {ops : List WOp} {i : Nat} (h : WInv ops i) (t : Int) : ∀ x ∈ (mAt ops i).1, Uq x ⟨t, i, 0⟩ := fun x hx => by
  have := h.seq x hx
  unfold Uq
  rw [Ne, cmpItem_zero]
  dsimp only; omega
set_option maxHeartbeats 4000000 in
theorem sortedWC (ops : List WOp) (ho : OpsOk ops) (hl : ops.length ≤ 1000) : PSpecN Try.prog 40 [opsV ops] (itemsV (mAt ops ops.length).2) := by
  have hw := wInv_all ho hl
  have h0 : mAt ops 0 = ([], []) := rfl
  refine pspecN tab_ok mix Try.func40 (by kernel_rfl) rfl rfl ?_
  ((conv => whnf); (repeat (first | ((first | refine z1 ?_ | refine z2 ?_ | refine z3 ?_ | refine idxB_at (by decide) rfl ?_ | refine atB_at (by decide) (by decide) ?_ | refine getB_lit _ rfl ?_ | refine z7 ?_); conv => whnf) | trivial)))
  refine loopB tab_ok mix [10, 11] [] (fun s : Nat ⊕ (Nat × List (List D)) => match s with
    | .inl i => [(3, .ac 1 3 (mAt ops i).1.length), (4, .ac 2 3 (mAt ops i).2.length), (12, V.int i)]
    | .inr (i, P) => [(3, .sl 1 3 P.length (mAt ops i).1.length), (4, .ac 2 3 (mAt ops i).2.length), (12, V.int i)]) (fun s => match s with
    | .inl i => [(1, .dat 3 ((mAt ops i).1.map Item.row)), (2, .dat 3 ((mAt ops i).2.map Item.row))]
    | .inr (i, P) => [(1, .dat 3 (P ++ (mAt ops i).1.map Item.row)), (2, .dat 3 ((mAt ops i).2.map Item.row))]) (fun s => match s with
    | .inl i => i ≤ ops.length
    | .inr (i, P) => i ≤ ops.length ∧ P ≠ [] ∧ P.length ≤ i) (fun s => match s with
    | .inl i => ops.length - i
    | .inr (i, P) => ops.length - i) [] (.inl 0) rfl (by show 0 ≤ _; omega) (by ((conv => whnf); (repeat (first | ((first | refine z1 ?_ | refine z2 ?_ | refine z3 ?_ | refine idxB_at (by decide) rfl ?_ | refine atB_at (by decide) (by decide) ?_ | refine getB_lit _ rfl ?_ | refine z7 ?_); conv => whnf) | trivial)))) ?_
  rintro (i | ⟨i, P⟩) hI
  · have hi : i ≤ ops.length := hI
    ((conv => whnf); (repeat (first | ((first | refine z1 ?_ | refine z2 ?_ | refine z3 ?_ | refine idxB_at (by decide) rfl ?_ | refine atB_at (by decide) (by decide) ?_ | refine getB_lit _ rfl ?_ | refine z7 ?_); conv => whnf) | trivial)))
    refine br_dec (fun g => ?_) (fun g => ?_) <;> ((conv => whnf); (repeat (first | ((first | refine z1 ?_ | refine z2 ?_ | refine z3 ?_ | refine idxB_at (by decide) rfl ?_ | refine atB_at (by decide) (by decide) ?_ | refine getB_lit _ rfl ?_ | refine z7 ?_); conv => whnf) | trivial)))
    · have g' : i < ops.length := by simpa using g
      obtain ⟨o, hx⟩ := get_lt g'
      have hwi := hw i hi
      have hst := mAt_step hx
      have hln := hwi.len
      have hnl := insN_le ops i
      have hsr := hwi.rel.srt
      have huq := mAt_uq hwi o.time
      refine idxB hx ?_
      ((conv => whnf); (repeat (first | ((first | refine z1 ?_ | refine z2 ?_ | refine z3 ?_ | refine idxB_at (by decide) rfl ?_ | refine atB_at (by decide) (by decide) ?_ | refine getB_lit _ rfl ?_ | refine z7 ?_); conv => whnf) | trivial)))
      cases hp : o.pop with
      | false =>
        have em : mDo (mAt ops i) i o = (insI (mAt ops i).1 ⟨o.time, i, 0⟩, (mAt ops i).2) := by unfold mDo; rw [if_neg (by rw [hp]; simp)]
        rw [em] at hst
        have hps : posI (mAt ops i).1 ⟨o.time, i, 0⟩ ≤ (mAt ops i).1.length := (List.takeWhile_sublist _).length_le
        ((conv => whnf); (repeat (first | ((first | refine z1 ?_ | refine z2 ?_ | refine z3 ?_ | refine idxB_at (by decide) rfl ?_ | refine atB_at (by decide) (by decide) ?_ | refine getB_lit _ rfl ?_ | refine z7 ?_); conv => whnf) | trivial)))
        refine callN (searchItemsN (mAt ops i).1 ⟨o.time, i, 0⟩ (by omega) (insI_mono hsr huq)) ?_
        ((conv => whnf); (repeat (first | ((first | refine z1 ?_ | refine z2 ?_ | refine z3 ?_ | refine idxB_at (by decide) rfl ?_ | refine atB_at (by decide) (by decide) ?_ | refine getB_lit _ rfl ?_ | refine z7 ?_); conv => whnf) | trivial)))
        by_cases hpos : 0 < (mAt ops i).1.length
        · refine callL (insertItem (mAt ops i).1 (posI (mAt ops i).1 ⟨o.time, i, 0⟩) ⟨o.time, i, 0⟩ hps hpos (by omega)) [some 1] [] rfl ?_
          ((conv => whnf); (repeat (first | ((first | refine z1 ?_ | refine z2 ?_ | refine z3 ?_ | refine idxB_at (by decide) rfl ?_ | refine atB_at (by decide) (by decide) ?_ | refine getB_lit _ rfl ?_ | refine z7 ?_); conv => whnf) | trivial)))
          refine .mk [(1, 2240)] (.inl (i + 1)) (by show i + 1 ≤ _; omega) (by dsimp only; omega) ?_
          ((conv => whnf); (repeat (first | ((first | refine z1 ?_ | refine z2 ?_ | refine z3 ?_ | refine idxB_at (by decide) rfl ?_ | refine atB_at (by decide) (by decide) ?_ | refine getB_lit _ rfl ?_ | refine z7 ?_); conv => whnf) | trivial)))
          refine cb (by rw [hst, (insI_perm _ _).length_eq]; rfl) ?_
          ((conv => whnf); (repeat (first | ((first | refine z1 ?_ | refine z2 ?_ | refine z3 ?_ | refine idxB_at (by decide) rfl ?_ | refine atB_at (by decide) (by decide) ?_ | refine getB_lit _ rfl ?_ | refine z7 ?_); conv => whnf) | trivial)))
          refine cb (by rw [hst]) ?_
          ((conv => whnf); (repeat (first | ((first | refine z1 ?_ | refine z2 ?_ | refine z3 ?_ | refine idxB_at (by decide) rfl ?_ | refine atB_at (by decide) (by decide) ?_ | refine getB_lit _ rfl ?_ | refine z7 ?_); conv => whnf) | trivial)))
          refine cb (by rw [hst]; rfl) ?_
          ((conv => whnf); (repeat (first | ((first | refine z1 ?_ | refine z2 ?_ | refine z3 ?_ | refine idxB_at (by decide) rfl ?_ | refine atB_at (by decide) (by decide) ?_ | refine getB_lit _ rfl ?_ | refine z7 ?_); conv => whnf) | trivial)))
          refine cb (by rw [hst]) ?_
          ((conv => whnf); (repeat (first | ((first | refine z1 ?_ | refine z2 ?_ | refine z3 ?_ | refine idxB_at (by decide) rfl ?_ | refine atB_at (by decide) (by decide) ?_ | refine getB_lit _ rfl ?_ | refine z7 ?_); conv => whnf) | trivial)))
        · have he : (mAt ops i).1 = [] := List.eq_nil_of_length_eq_zero (by omega)
          have hp0 : posI (mAt ops i).1 ⟨o.time, i, 0⟩ = 0 := by omega
          rw [hp0, he]
          rw [he] at hst
          refine callL (insertItem0 ⟨o.time, i, 0⟩) [some 1] [] rfl ?_
          ((conv => whnf); (repeat (first | ((first | refine z1 ?_ | refine z2 ?_ | refine z3 ?_ | refine idxB_at (by decide) rfl ?_ | refine atB_at (by decide) (by decide) ?_ | refine getB_lit _ rfl ?_ | refine z7 ?_); conv => whnf) | trivial)))
          refine .mk [(1, 2240)] (.inl (i + 1)) (by show i + 1 ≤ _; omega) (by dsimp only; omega) ?_
          ((conv => whnf); (repeat (first | ((first | refine z1 ?_ | refine z2 ?_ | refine z3 ?_ | refine idxB_at (by decide) rfl ?_ | refine atB_at (by decide) (by decide) ?_ | refine getB_lit _ rfl ?_ | refine z7 ?_); conv => whnf) | trivial)))
          refine cb (by rw [hst]; rfl) ?_
          ((conv => whnf); (repeat (first | ((first | refine z1 ?_ | refine z2 ?_ | refine z3 ?_ | refine idxB_at (by decide) rfl ?_ | refine atB_at (by decide) (by decide) ?_ | refine getB_lit _ rfl ?_ | refine z7 ?_); conv => whnf) | trivial)))
          refine cb (by rw [hst]) ?_
          ((conv => whnf); (repeat (first | ((first | refine z1 ?_ | refine z2 ?_ | refine z3 ?_ | refine idxB_at (by decide) rfl ?_ | refine atB_at (by decide) (by decide) ?_ | refine getB_lit _ rfl ?_ | refine z7 ?_); conv => whnf) | trivial)))
          refine cb (by rw [hst]; rfl) ?_
          ((conv => whnf); (repeat (first | ((first | refine z1 ?_ | refine z2 ?_ | refine z3 ?_ | refine idxB_at (by decide) rfl ?_ | refine atB_at (by decide) (by decide) ?_ | refine getB_lit _ rfl ?_ | refine z7 ?_); conv => whnf) | trivial)))
          refine cb (by rw [hst]) ?_
          ((conv => whnf); (repeat (first | ((first | refine z1 ?_ | refine z2 ?_ | refine z3 ?_ | refine idxB_at (by decide) rfl ?_ | refine atB_at (by decide) (by decide) ?_ | refine getB_lit _ rfl ?_ | refine z7 ?_); conv => whnf) | trivial)))
      | true =>
        cases hS : (mAt ops i).1 with
        | nil =>
          have em : mDo (mAt ops i) i o = mAt ops i := by unfold mDo; rw [if_pos hp, hS]
          rw [em] at hst
          ((conv => whnf); (repeat (first | ((first | refine z1 ?_ | refine z2 ?_ | refine z3 ?_ | refine idxB_at (by decide) rfl ?_ | refine atB_at (by decide) (by decide) ?_ | refine getB_lit _ rfl ?_ | refine z7 ?_); conv => whnf) | trivial)))
          refine .mk [] (.inl (i + 1)) (by show i + 1 ≤ _; omega) (by dsimp only; omega) ?_
          ((conv => whnf); (repeat (first | ((first | refine z1 ?_ | refine z2 ?_ | refine z3 ?_ | refine idxB_at (by decide) rfl ?_ | refine atB_at (by decide) (by decide) ?_ | refine getB_lit _ rfl ?_ | refine z7 ?_); conv => whnf) | trivial)))
          refine cb (by rw [hst, hS]) ?_
          ((conv => whnf); (repeat (first | ((first | refine z1 ?_ | refine z2 ?_ | refine z3 ?_ | refine idxB_at (by decide) rfl ?_ | refine atB_at (by decide) (by decide) ?_ | refine getB_lit _ rfl ?_ | refine z7 ?_); conv => whnf) | trivial)))
          refine cb (by rw [hst]) ?_
          ((conv => whnf); (repeat (first | ((first | refine z1 ?_ | refine z2 ?_ | refine z3 ?_ | refine idxB_at (by decide) rfl ?_ | refine atB_at (by decide) (by decide) ?_ | refine getB_lit _ rfl ?_ | refine z7 ?_); conv => whnf) | trivial)))
          refine cb (by rw [hst, hS]) ?_
          ((conv => whnf); (repeat (first | ((first | refine z1 ?_ | refine z2 ?_ | refine z3 ?_ | refine idxB_at (by decide) rfl ?_ | refine atB_at (by decide) (by decide) ?_ | refine getB_lit _ rfl ?_ | refine z7 ?_); conv => whnf) | trivial)))
          refine cb (by rw [hst]) ?_
          ((conv => whnf); (repeat (first | ((first | refine z1 ?_ | refine z2 ?_ | refine z3 ?_ | refine idxB_at (by decide) rfl ?_ | refine atB_at (by decide) (by decide) ?_ | refine getB_lit _ rfl ?_ | refine z7 ?_); conv => whnf) | trivial)))
        | cons x T =>
          have em : mDo (mAt ops i) i o = (T, (mAt ops i).2 ++ [x]) := by unfold mDo; rw [if_pos hp, hS]
          rw [em] at hst
          ((conv => whnf); (repeat (first | ((first | refine z1 ?_ | refine z2 ?_ | refine z3 ?_ | refine idxB_at (by decide) rfl ?_ | refine atB_at (by decide) (by decide) ?_ | refine getB_lit _ rfl ?_ | refine z7 ?_); conv => whnf) | trivial)))
          rw [hS] at hln
          simp only [List.length_cons] at hln
          refine br_dec (fun _ => ?_) (fun g => absurd (by simp <;> omega) g)
          ((conv => whnf); (repeat (first | ((first | refine z1 ?_ | refine z2 ?_ | refine z3 ?_ | refine idxB_at (by decide) rfl ?_ | refine atB_at (by decide) (by decide) ?_ | refine getB_lit _ rfl ?_ | refine z7 ?_); conv => whnf) | trivial)))
          refine .mk 0 rfl (by simp) ?_
          ((conv => whnf); (repeat (first | ((first | refine z1 ?_ | refine z2 ?_ | refine z3 ?_ | refine idxB_at (by decide) rfl ?_ | refine atB_at (by decide) (by decide) ?_ | refine getB_lit _ rfl ?_ | refine z7 ?_); conv => whnf) | trivial)))
          refine slB 1 (x :: T).length rfl rfl (by simp) ?_
          ((conv => whnf); (repeat (first | ((first | refine z1 ?_ | refine z2 ?_ | refine z3 ?_ | refine idxB_at (by decide) rfl ?_ | refine atB_at (by decide) (by decide) ?_ | refine getB_lit _ rfl ?_ | refine z7 ?_); conv => whnf) | trivial)))
          refine .mk [(2, 1664)] (.inr (i + 1, [Item.row x])) ⟨by omega, by simp, by simp⟩ (by dsimp only; omega) ?_
          ((conv => whnf); (repeat (first | ((first | refine z1 ?_ | refine z2 ?_ | refine z3 ?_ | refine idxB_at (by decide) rfl ?_ | refine atB_at (by decide) (by decide) ?_ | refine getB_lit _ rfl ?_ | refine z7 ?_); conv => whnf) | trivial)))
          refine cb ⟨by simp, by rw [hst]; simp⟩ ?_
          ((conv => whnf); (repeat (first | ((first | refine z1 ?_ | refine z2 ?_ | refine z3 ?_ | refine idxB_at (by decide) rfl ?_ | refine atB_at (by decide) (by decide) ?_ | refine getB_lit _ rfl ?_ | refine z7 ?_); conv => whnf) | trivial)))
          refine cb (by rw [hst]; simp) ?_
          ((conv => whnf); (repeat (first | ((first | refine z1 ?_ | refine z2 ?_ | refine z3 ?_ | refine idxB_at (by decide) rfl ?_ | refine atB_at (by decide) (by decide) ?_ | refine getB_lit _ rfl ?_ | refine z7 ?_); conv => whnf) | trivial)))
          refine cb (by rw [hst]; simp) ?_
          ((conv => whnf); (repeat (first | ((first | refine z1 ?_ | refine z2 ?_ | refine z3 ?_ | refine idxB_at (by decide) rfl ?_ | refine atB_at (by decide) (by decide) ?_ | refine getB_lit _ rfl ?_ | refine z7 ?_); conv => whnf) | trivial)))
          refine cb (by rw [hst]; simp [Item.row]) ?_
          ((conv => whnf); (repeat (first | ((first | refine z1 ?_ | refine z2 ?_ | refine z3 ?_ | refine idxB_at (by decide) rfl ?_ | refine atB_at (by decide) (by decide) ?_ | refine getB_lit _ rfl ?_ | refine z7 ?_); conv => whnf) | trivial)))
    · have ei : i = ops.length := by simp at g; omega
      subst ei
      exact .frz (frzItems rfl)
  · obtain ⟨hi, hP, hPl⟩ := hI
    have h1 : P ++ (mAt ops i).1.map Item.row ≠ [] := fun e => hP (List.append_eq_nil_iff.1 e).1
    ((conv => whnf); (repeat (first | ((first | refine z1 ?_ | refine z2 ?_ | refine z3 ?_ | refine idxB_at (by decide) rfl ?_ | refine atB_at (by decide) (by decide) ?_ | refine getB_lit _ rfl ?_ | refine z7 ?_); conv => whnf) | trivial)))
    refine br_dec (fun g => ?_) (fun g => ?_) <;> ((conv => whnf); (repeat (first | ((first | refine z1 ?_ | refine z2 ?_ | refine z3 ?_ | refine idxB_at (by decide) rfl ?_ | refine atB_at (by decide) (by decide) ?_ | refine getB_lit _ rfl ?_ | refine z7 ?_); conv => whnf) | trivial)))
    · have g' : i < ops.length := by simpa using g
      obtain ⟨o, hx⟩ := get_lt g'
      have hwi := hw i hi
      have hst := mAt_step hx
      have hln := hwi.len
      have hnl := insN_le ops i
      have hsr := hwi.rel.srt
      have huq := mAt_uq hwi o.time
      refine idxB hx ?_
      ((conv => whnf); (repeat (first | ((first | refine z1 ?_ | refine z2 ?_ | refine z3 ?_ | refine idxB_at (by decide) rfl ?_ | refine atB_at (by decide) (by decide) ?_ | refine getB_lit _ rfl ?_ | refine z7 ?_); conv => whnf) | trivial)))
      cases hp : o.pop with
      | false =>
        have em : mDo (mAt ops i) i o = (insI (mAt ops i).1 ⟨o.time, i, 0⟩, (mAt ops i).2) := by unfold mDo; rw [if_neg (by rw [hp]; simp)]
        rw [em] at hst
        have hps : posI (mAt ops i).1 ⟨o.time, i, 0⟩ ≤ (mAt ops i).1.length := (List.takeWhile_sublist _).length_le
        ((conv => whnf); (repeat (first | ((first | refine z1 ?_ | refine z2 ?_ | refine z3 ?_ | refine idxB_at (by decide) rfl ?_ | refine atB_at (by decide) (by decide) ?_ | refine getB_lit _ rfl ?_ | refine z7 ?_); conv => whnf) | trivial)))
        refine callN (searchItemsN (mAt ops i).1 ⟨o.time, i, 0⟩ (by omega) (insI_mono hsr huq)) ?_
        ((conv => whnf); (repeat (first | ((first | refine z1 ?_ | refine z2 ?_ | refine z3 ?_ | refine idxB_at (by decide) rfl ?_ | refine atB_at (by decide) (by decide) ?_ | refine getB_lit _ rfl ?_ | refine z7 ?_); conv => whnf) | trivial)))
        refine cb ⟨by simp, by rw [dropP0]; simp [List.take_of_length_le]⟩ ?_
        ((conv => whnf); (repeat (first | ((first | refine z1 ?_ | refine z2 ?_ | refine z3 ?_ | refine idxB_at (by decide) rfl ?_ | refine atB_at (by decide) (by decide) ?_ | refine getB_lit _ rfl ?_ | refine z7 ?_); conv => whnf) | trivial)))
        refine callL (insertItemP P (mAt ops i).1 (posI (mAt ops i).1 ⟨o.time, i, 0⟩) ⟨o.time, i, 0⟩ hps h1 (by omega)) [some 1] [] rfl ?_
        ((conv => whnf); (repeat (first | ((first | refine z1 ?_ | refine z2 ?_ | refine z3 ?_ | refine idxB_at (by decide) rfl ?_ | refine atB_at (by decide) (by decide) ?_ | refine getB_lit _ rfl ?_ | refine z7 ?_); conv => whnf) | trivial)))
        refine .mk [(1, 2240)] (.inl (i + 1)) (by show i + 1 ≤ _; omega) (by dsimp only; omega) ?_
        ((conv => whnf); (repeat (first | ((first | refine z1 ?_ | refine z2 ?_ | refine z3 ?_ | refine idxB_at (by decide) rfl ?_ | refine atB_at (by decide) (by decide) ?_ | refine getB_lit _ rfl ?_ | refine z7 ?_); conv => whnf) | trivial)))
        refine cb (by rw [hst, (insI_perm _ _).length_eq]; rfl) ?_
        ((conv => whnf); (repeat (first | ((first | refine z1 ?_ | refine z2 ?_ | refine z3 ?_ | refine idxB_at (by decide) rfl ?_ | refine atB_at (by decide) (by decide) ?_ | refine getB_lit _ rfl ?_ | refine z7 ?_); conv => whnf) | trivial)))
        refine cb (by rw [hst]) ?_
        ((conv => whnf); (repeat (first | ((first | refine z1 ?_ | refine z2 ?_ | refine z3 ?_ | refine idxB_at (by decide) rfl ?_ | refine atB_at (by decide) (by decide) ?_ | refine getB_lit _ rfl ?_ | refine z7 ?_); conv => whnf) | trivial)))
        refine cb (by rw [hst]; rfl) ?_
        ((conv => whnf); (repeat (first | ((first | refine z1 ?_ | refine z2 ?_ | refine z3 ?_ | refine idxB_at (by decide) rfl ?_ | refine atB_at (by decide) (by decide) ?_ | refine getB_lit _ rfl ?_ | refine z7 ?_); conv => whnf) | trivial)))
        refine cb (by rw [hst]) ?_
        ((conv => whnf); (repeat (first | ((first | refine z1 ?_ | refine z2 ?_ | refine z3 ?_ | refine idxB_at (by decide) rfl ?_ | refine atB_at (by decide) (by decide) ?_ | refine getB_lit _ rfl ?_ | refine z7 ?_); conv => whnf) | trivial)))
      | true =>
        cases hS : (mAt ops i).1 with
        | nil =>
          have em : mDo (mAt ops i) i o = mAt ops i := by unfold mDo; rw [if_pos hp, hS]
          rw [em] at hst
          ((conv => whnf); (repeat (first | ((first | refine z1 ?_ | refine z2 ?_ | refine z3 ?_ | refine idxB_at (by decide) rfl ?_ | refine atB_at (by decide) (by decide) ?_ | refine getB_lit _ rfl ?_ | refine z7 ?_); conv => whnf) | trivial)))
          refine .mk [] (.inr (i + 1, P)) ⟨by omega, hP, by omega⟩ (by dsimp only; omega) ?_
          ((conv => whnf); (repeat (first | ((first | refine z1 ?_ | refine z2 ?_ | refine z3 ?_ | refine idxB_at (by decide) rfl ?_ | refine atB_at (by decide) (by decide) ?_ | refine getB_lit _ rfl ?_ | refine z7 ?_); conv => whnf) | trivial)))
          refine cb ⟨rfl, by rw [hst, hS]⟩ ?_
          ((conv => whnf); (repeat (first | ((first | refine z1 ?_ | refine z2 ?_ | refine z3 ?_ | refine idxB_at (by decide) rfl ?_ | refine atB_at (by decide) (by decide) ?_ | refine getB_lit _ rfl ?_ | refine z7 ?_); conv => whnf) | trivial)))
          refine cb (by rw [hst]) ?_
          ((conv => whnf); (repeat (first | ((first | refine z1 ?_ | refine z2 ?_ | refine z3 ?_ | refine idxB_at (by decide) rfl ?_ | refine atB_at (by decide) (by decide) ?_ | refine getB_lit _ rfl ?_ | refine z7 ?_); conv => whnf) | trivial)))
          refine cb (by rw [hst, hS]) ?_
          ((conv => whnf); (repeat (first | ((first | refine z1 ?_ | refine z2 ?_ | refine z3 ?_ | refine idxB_at (by decide) rfl ?_ | refine atB_at (by decide) (by decide) ?_ | refine getB_lit _ rfl ?_ | refine z7 ?_); conv => whnf) | trivial)))
          refine cb (by rw [hst]) ?_
          ((conv => whnf); (repeat (first | ((first | refine z1 ?_ | refine z2 ?_ | refine z3 ?_ | refine idxB_at (by decide) rfl ?_ | refine atB_at (by decide) (by decide) ?_ | refine getB_lit _ rfl ?_ | refine z7 ?_); conv => whnf) | trivial)))
        | cons x T =>
          have em : mDo (mAt ops i) i o = (T, (mAt ops i).2 ++ [x]) := by unfold mDo; rw [if_pos hp, hS]
          rw [em] at hst
          ((conv => whnf); (repeat (first | ((first | refine z1 ?_ | refine z2 ?_ | refine z3 ?_ | refine idxB_at (by decide) rfl ?_ | refine atB_at (by decide) (by decide) ?_ | refine getB_lit _ rfl ?_ | refine z7 ?_); conv => whnf) | trivial)))
          rw [hS] at hln
          simp only [List.length_cons] at hln
          refine br_dec (fun _ => ?_) (fun g => absurd (by simp <;> omega) g)
          ((conv => whnf); (repeat (first | ((first | refine z1 ?_ | refine z2 ?_ | refine z3 ?_ | refine idxB_at (by decide) rfl ?_ | refine atB_at (by decide) (by decide) ?_ | refine getB_lit _ rfl ?_ | refine z7 ?_); conv => whnf) | trivial)))
          refine .mk 0 rfl (by simp) ?_
          ((conv => whnf); (repeat (first | ((first | refine z1 ?_ | refine z2 ?_ | refine z3 ?_ | refine idxB_at (by decide) rfl ?_ | refine atB_at (by decide) (by decide) ?_ | refine getB_lit _ rfl ?_ | refine z7 ?_); conv => whnf) | trivial)))
          refine .mk (Item.row x) (by simp) ?_
          ((conv => whnf); (repeat (first | ((first | refine z1 ?_ | refine z2 ?_ | refine z3 ?_ | refine idxB_at (by decide) rfl ?_ | refine atB_at (by decide) (by decide) ?_ | refine getB_lit _ rfl ?_ | refine z7 ?_); conv => whnf) | trivial)))
          refine slB 1 (x :: T).length rfl rfl (by simp) ?_
          ((conv => whnf); (repeat (first | ((first | refine z1 ?_ | refine z2 ?_ | refine z3 ?_ | refine idxB_at (by decide) rfl ?_ | refine atB_at (by decide) (by decide) ?_ | refine getB_lit _ rfl ?_ | refine z7 ?_); conv => whnf) | trivial)))
          refine .mk [(2, 1664)] (.inr (i + 1, P ++ [Item.row x])) ⟨by omega, by simp, by simp; omega⟩ (by dsimp only; omega) ?_
          ((conv => whnf); (repeat (first | ((first | refine z1 ?_ | refine z2 ?_ | refine z3 ?_ | refine idxB_at (by decide) rfl ?_ | refine atB_at (by decide) (by decide) ?_ | refine getB_lit _ rfl ?_ | refine z7 ?_); conv => whnf) | trivial)))
          refine cb ⟨by simp, by rw [hst]; simp⟩ ?_
          ((conv => whnf); (repeat (first | ((first | refine z1 ?_ | refine z2 ?_ | refine z3 ?_ | refine idxB_at (by decide) rfl ?_ | refine atB_at (by decide) (by decide) ?_ | refine getB_lit _ rfl ?_ | refine z7 ?_); conv => whnf) | trivial)))
          refine cb (by rw [hst]; simp) ?_
          ((conv => whnf); (repeat (first | ((first | refine z1 ?_ | refine z2 ?_ | refine z3 ?_ | refine idxB_at (by decide) rfl ?_ | refine atB_at (by decide) (by decide) ?_ | refine getB_lit _ rfl ?_ | refine z7 ?_); conv => whnf) | trivial)))
          refine cb (by rw [hst]; simp) ?_
          ((conv => whnf); (repeat (first | ((first | refine z1 ?_ | refine z2 ?_ | refine z3 ?_ | refine idxB_at (by decide) rfl ?_ | refine atB_at (by decide) (by decide) ?_ | refine getB_lit _ rfl ?_ | refine z7 ?_); conv => whnf) | trivial)))
          refine cb (by rw [hst]; simp [Item.row]) ?_
          ((conv => whnf); (repeat (first | ((first | refine z1 ?_ | refine z2 ?_ | refine z3 ?_ | refine idxB_at (by decide) rfl ?_ | refine atB_at (by decide) (by decide) ?_ | refine getB_lit _ rfl ?_ | refine z7 ?_); conv => whnf) | trivial)))
    · have ei : i = ops.length := by simp at g; omega
      subst ei
      exact .frz (frzItems rfl)
end Go.Proofs.Ytmihhkcbbdpnaaa.Abs
/- Workloads: the reference of the expected results. -/
namespace Go.Proofs.Ytmihhkcbbdpnaaa.Abs
open Go.Proofs
set_option maxRecDepth 10000
set_option linter.unusedSimpArgs false
set_option linter.unusedVariables false

/-- L is the place of the first of the least times among the first k -/
structure LeastAt (rq : List Item) (L k : Nat) (x : Item) : Prop where
  at_ : rq[L]? = some x
  lt : L < k ∨ (L = 0 ∧ k = 0)
  le : ∀ (j : Nat) (y : Item), j < k → rq[j]? = some y → x.time ≤ y.time
  first : ∀ (j : Nat) (y : Item), j < L → rq[j]? = some y → x.time < y.time
theorem bf_seq {x y : Item} (ht : x.time = y.time) (hs : x.seq < y.seq) : Bf x y := by
  have h0 : cmpI x.time y.time = 0 := (cmpI_zero _ _).2 ht
  unfold Bf cmpItem or2
  rw [if_pos h0]
  unfold cmpI
  rw [if_pos hs]; decide
theorem LeastAt.next {rq : List Item} {L k : Nat} {x y : Item} (h : LeastAt rq L k x) (hy : rq[k]? = some y) : if y.time < x.time then LeastAt rq k (k + 1) y else LeastAt rq L (k + 1) x := by
  split
  · next ht =>
    refine ⟨hy, .inl (by omega), fun j z hj hz => ?_, fun j z hj hz => ?_⟩
    · by_cases e : j = k
      · subst e; rw [hy] at hz; cases hz; exact Int.le_refl _
      · have := h.le j z (by omega) hz; omega
    · have := h.le j z (by omega) hz; omega
  · next ht =>
    refine ⟨h.at_, .inl ?_, fun j z hj hz => ?_, h.first⟩
    · rcases h.lt with h | h <;> omega
    · by_cases e : j = k
      · subst e; rw [hy] at hz; cases hz; omega
      · exact h.le j z (by omega) hz
theorem least_head {rq S : List Item} {L : Nat} {x : Item} (h : LeastAt rq L rq.length x) (hs : S.Pairwise Bf) (hp : rq.Perm S) (hq : rq.Pairwise fun a b => a.seq < b.seq) :
    ∃ T, S = x :: T ∧ (rq.take L ++ rq.drop (L + 1)).Perm T := by
  obtain ⟨hl, hx⟩ := List.getElem?_eq_some_iff.1 h.at_
  have e : rq = rq.take L ++ x :: rq.drop (L + 1) := by
    rw [← hx, ← List.drop_eq_getElem_cons hl, List.take_append_drop]
  have hp2 : S.Perm (x :: (rq.take L ++ rq.drop (L + 1))) := by
    refine hp.symm.trans ?_
    conv => lhs; rw [e]
    exact List.perm_middle
  have time : ∀ y : Item, x.time < y.time → Bf x y := fun y ht => by
    unfold Bf cmpItem or2 cmpI
    rw [if_pos ht, if_neg (by decide)]; decide
  obtain ⟨T, e1, e2, e3⟩ := srt_head hs hp2 fun y hy => by
    rcases List.mem_append.1 hy with hy | hy
    · obtain ⟨j, hj, rfl⟩ := List.getElem_of_mem hy
      rw [List.length_take] at hj
      refine time _ (h.first j _ (by omega) (by rw [List.getElem_take]; simp))
    · obtain ⟨j, hj, rfl⟩ := List.getElem_of_mem hy
      rw [List.length_drop] at hj
      have h1 := h.le (L + 1 + j) rq[L + 1 + j] (by omega) (by simp)
      have h2 := List.pairwise_iff_getElem.1 hq L (L + 1 + j) hl (by omega) (by omega)
      rw [hx] at h2
      rw [List.getElem_drop]
      by_cases ht : x.time < rq[L + 1 + j].time
      · exact time _ ht
      · exact bf_seq (by omega) h2
  exact ⟨T, e1, e2.symm⟩
set_option maxHeartbeats 4000000 in
theorem refSortedWC (ops : List WOp) (ho : OpsOk ops) (hl : ops.length ≤ 1000) : PSpecN Try.prog 41 [opsV ops] (itemsV (mAt ops ops.length).2) := by
  have hw := wInv_all ho hl
  refine pspecN tab_ok mix Try.func41 (by kernel_rfl) rfl rfl ?_
  ((conv => whnf); (repeat (first | ((first | refine z1 ?_ | refine z2 ?_ | refine z3 ?_ | refine idxB_at (by decide) rfl ?_ | refine atB_at (by decide) (by decide) ?_ | refine getB_lit _ rfl ?_ | refine z7 ?_); conv => whnf) | trivial)))
  refine loopB2 tab_ok mix [0] [] (fun (i : Nat) (rq : List Item) => [(3, .ac 1 3 rq.length), (4, .ac 2 3 (mAt ops i).2.length), (5, V.int i)]) (fun i rq => [(1, .dat 3 (rq.map Item.row)), (2, .dat 3 ((mAt ops i).2.map Item.row))]) (fun i rq => i ≤ ops.length ∧ rq.Perm (mAt ops i).1 ∧ rq.Pairwise (fun a b => a.seq < b.seq)) (fun i rq => ops.length - i) [] 0 [] rfl ⟨by omega, by simp [mAt], by simp⟩ (by ((conv => whnf); (repeat (first | ((first | refine z1 ?_ | refine z2 ?_ | refine z3 ?_ | refine idxB_at (by decide) rfl ?_ | refine atB_at (by decide) (by decide) ?_ | refine getB_lit _ rfl ?_ | refine z7 ?_); conv => whnf) | trivial)))) ?_
  rintro i rq ⟨hi, hpm, hsq⟩
  ((conv => whnf); (repeat (first | ((first | refine z1 ?_ | refine z2 ?_ | refine z3 ?_ | refine idxB_at (by decide) rfl ?_ | refine atB_at (by decide) (by decide) ?_ | refine getB_lit _ rfl ?_ | refine z7 ?_); conv => whnf) | trivial)))
  refine br_dec (fun g => ?_) (fun g => ?_) <;> ((conv => whnf); (repeat (first | ((first | refine z1 ?_ | refine z2 ?_ | refine z3 ?_ | refine idxB_at (by decide) rfl ?_ | refine atB_at (by decide) (by decide) ?_ | refine getB_lit _ rfl ?_ | refine z7 ?_); conv => whnf) | trivial)))
  · have g' : i < ops.length := by simpa using g
    obtain ⟨o, hx⟩ := get_lt g'
    have hwi := hw i hi
    have hst := mAt_step hx
    have hln := hwi.len
    have hnl := insN_le ops i
    have hpl := hpm.length_eq
    refine idxB hx ?_
    ((conv => whnf); (repeat (first | ((first | refine z1 ?_ | refine z2 ?_ | refine z3 ?_ | refine idxB_at (by decide) rfl ?_ | refine atB_at (by decide) (by decide) ?_ | refine getB_lit _ rfl ?_ | refine z7 ?_); conv => whnf) | trivial)))
    cases hp : o.pop with
    | false =>
      have em : mDo (mAt ops i) i o = (insI (mAt ops i).1 ⟨o.time, i, 0⟩, (mAt ops i).2) := by unfold mDo; rw [if_neg (by rw [hp]; simp)]
      rw [em] at hst
      ((conv => whnf); (repeat (first | ((first | refine z1 ?_ | refine z2 ?_ | refine z3 ?_ | refine idxB_at (by decide) rfl ?_ | refine atB_at (by decide) (by decide) ?_ | refine getB_lit _ rfl ?_ | refine z7 ?_); conv => whnf) | trivial)))
      refine idxB hx ?_
      ((conv => whnf); (repeat (first | ((first | refine z1 ?_ | refine z2 ?_ | refine z3 ?_ | refine idxB_at (by decide) rfl ?_ | refine atB_at (by decide) (by decide) ?_ | refine getB_lit _ rfl ?_ | refine z7 ?_); conv => whnf) | trivial)))
      refine .mk [(1, 1472)] (i + 1) (rq ++ [⟨o.time, i, 0⟩]) ⟨by omega, ?_, ?_⟩ (by dsimp only; omega) ?_
      · rw [hst]
        exact (List.perm_append_comm.trans (hpm.cons _)).trans (insI_perm _ _).symm
      · refine List.pairwise_append.2 ⟨hsq, List.pairwise_singleton _ _, fun a ha b hb => ?_⟩
        rw [List.mem_singleton] at hb
        subst hb
        exact hwi.seq a (hpm.mem_iff.1 ha)
      ((conv => whnf); (repeat (first | ((first | refine z1 ?_ | refine z2 ?_ | refine z3 ?_ | refine idxB_at (by decide) rfl ?_ | refine atB_at (by decide) (by decide) ?_ | refine getB_lit _ rfl ?_ | refine z7 ?_); conv => whnf) | trivial)))
      refine cb (by rw [hst]) ?_
      ((conv => whnf); (repeat (first | ((first | refine z1 ?_ | refine z2 ?_ | refine z3 ?_ | refine idxB_at (by decide) rfl ?_ | refine atB_at (by decide) (by decide) ?_ | refine getB_lit _ rfl ?_ | refine z7 ?_); conv => whnf) | trivial)))
      refine cb (by simp [Item.row]) ?_
      ((conv => whnf); (repeat (first | ((first | refine z1 ?_ | refine z2 ?_ | refine z3 ?_ | refine idxB_at (by decide) rfl ?_ | refine atB_at (by decide) (by decide) ?_ | refine getB_lit _ rfl ?_ | refine z7 ?_); conv => whnf) | trivial)))
      refine cb (by rw [hst]) ?_
      ((conv => whnf); (repeat (first | ((first | refine z1 ?_ | refine z2 ?_ | refine z3 ?_ | refine idxB_at (by decide) rfl ?_ | refine atB_at (by decide) (by decide) ?_ | refine getB_lit _ rfl ?_ | refine z7 ?_); conv => whnf) | trivial)))
    | true =>
      cases rq with
      | nil =>
        have hS : (mAt ops i).1 = [] := List.Perm.eq_nil hpm.symm
        have em : mDo (mAt ops i) i o = mAt ops i := by unfold mDo; rw [if_pos hp, hS]
        rw [em] at hst
        ((conv => whnf); (repeat (first | ((first | refine z1 ?_ | refine z2 ?_ | refine z3 ?_ | refine idxB_at (by decide) rfl ?_ | refine atB_at (by decide) (by decide) ?_ | refine getB_lit _ rfl ?_ | refine z7 ?_); conv => whnf) | trivial)))
        refine .mk [] (i + 1) [] ⟨by omega, by rw [hst]; exact hpm, hsq⟩ (by dsimp only; omega) ?_
        ((conv => whnf); (repeat (first | ((first | refine z1 ?_ | refine z2 ?_ | refine z3 ?_ | refine idxB_at (by decide) rfl ?_ | refine atB_at (by decide) (by decide) ?_ | refine getB_lit _ rfl ?_ | refine z7 ?_); conv => whnf) | trivial)))
        refine cb (by rw [hst]) ?_
        ((conv => whnf); (repeat (first | ((first | refine z1 ?_ | refine z2 ?_ | refine z3 ?_ | refine idxB_at (by decide) rfl ?_ | refine atB_at (by decide) (by decide) ?_ | refine getB_lit _ rfl ?_ | refine z7 ?_); conv => whnf) | trivial)))
        refine cb (by rw [hst]) ?_
        ((conv => whnf); (repeat (first | ((first | refine z1 ?_ | refine z2 ?_ | refine z3 ?_ | refine idxB_at (by decide) rfl ?_ | refine atB_at (by decide) (by decide) ?_ | refine getB_lit _ rfl ?_ | refine z7 ?_); conv => whnf) | trivial)))
      | cons a t =>
        ((conv => whnf); (repeat (first | ((first | refine z1 ?_ | refine z2 ?_ | refine z3 ?_ | refine idxB_at (by decide) rfl ?_ | refine atB_at (by decide) (by decide) ?_ | refine getB_lit _ rfl ?_ | refine z7 ?_); conv => whnf) | trivial)))
        refine loopB2 tab_ok mix [0, 3, 4, 5] [1, 2] (fun (L k : Nat) => [(6, V.int L), (7, V.int k)]) (fun L k => []) (fun L k => k ≤ (a :: t).length ∧ ∃ x, LeastAt (a :: t) L k x) (fun L k => (a :: t).length - k) [] 0 0 rfl ⟨by omega, a, rfl, .inr ⟨rfl, rfl⟩, by intro j y h; omega, by intro j y h; omega⟩ (by ((conv => whnf); (repeat (first | ((first | refine z1 ?_ | refine z2 ?_ | refine z3 ?_ | refine idxB_at (by decide) rfl ?_ | refine atB_at (by decide) (by decide) ?_ | refine getB_lit _ rfl ?_ | refine z7 ?_); conv => whnf) | trivial)))) ?_
        rintro L k ⟨hk, x, hL⟩
        obtain ⟨hLl, _⟩ := List.getElem?_eq_some_iff.1 hL.at_
        have hat := hL.at_
        generalize hrq : a :: t = rq at *
        ((conv => whnf); (repeat (first | ((first | refine z1 ?_ | refine z2 ?_ | refine z3 ?_ | refine idxB_at (by decide) rfl ?_ | refine atB_at (by decide) (by decide) ?_ | refine getB_lit _ rfl ?_ | refine z7 ?_); conv => whnf) | trivial)))
        refine br_dec (fun u => ?_) (fun u => ?_) <;> ((conv => whnf); (repeat (first | ((first | refine z1 ?_ | refine z2 ?_ | refine z3 ?_ | refine idxB_at (by decide) rfl ?_ | refine atB_at (by decide) (by decide) ?_ | refine getB_lit _ rfl ?_ | refine z7 ?_); conv => whnf) | trivial)))
        · have u' : k < rq.length := by simpa using u
          obtain ⟨y, hy⟩ := get_lt u'
          have hnx := hL.next hy
          refine .mk k rfl u' ?_
          ((conv => whnf); (repeat (first | ((first | refine z1 ?_ | refine z2 ?_ | refine z3 ?_ | refine idxB_at (by decide) rfl ?_ | refine atB_at (by decide) (by decide) ?_ | refine getB_lit _ rfl ?_ | refine z7 ?_); conv => whnf) | trivial)))
          refine getB hy ?_
          ((conv => whnf); (repeat (first | ((first | refine z1 ?_ | refine z2 ?_ | refine z3 ?_ | refine idxB_at (by decide) rfl ?_ | refine atB_at (by decide) (by decide) ?_ | refine getB_lit _ rfl ?_ | refine z7 ?_); conv => whnf) | trivial)))
          refine .mk L rfl hLl ?_
          ((conv => whnf); (repeat (first | ((first | refine z1 ?_ | refine z2 ?_ | refine z3 ?_ | refine idxB_at (by decide) rfl ?_ | refine atB_at (by decide) (by decide) ?_ | refine getB_lit _ rfl ?_ | refine z7 ?_); conv => whnf) | trivial)))
          refine getB hat ?_
          ((conv => whnf); (repeat (first | ((first | refine z1 ?_ | refine z2 ?_ | refine z3 ?_ | refine idxB_at (by decide) rfl ?_ | refine atB_at (by decide) (by decide) ?_ | refine getB_lit _ rfl ?_ | refine z7 ?_); conv => whnf) | trivial)))
          refine br_dec (fun e => ?_) (fun e => ?_) <;> ((conv => whnf); (repeat (first | ((first | refine z1 ?_ | refine z2 ?_ | refine z3 ?_ | refine idxB_at (by decide) rfl ?_ | refine atB_at (by decide) (by decide) ?_ | refine getB_lit _ rfl ?_ | refine z7 ?_); conv => whnf) | trivial)))
          · rw [if_pos e] at hnx
            refine .mk [] k (k + 1) ⟨by omega, y, hnx⟩ (by dsimp only; omega) ?_
            ((conv => whnf); (repeat (first | ((first | refine z1 ?_ | refine z2 ?_ | refine z3 ?_ | refine idxB_at (by decide) rfl ?_ | refine atB_at (by decide) (by decide) ?_ | refine getB_lit _ rfl ?_ | refine z7 ?_); conv => whnf) | trivial)))
          · rw [if_neg e] at hnx
            refine .mk [] L (k + 1) ⟨by omega, x, hnx⟩ (by dsimp only; omega) ?_
            ((conv => whnf); (repeat (first | ((first | refine z1 ?_ | refine z2 ?_ | refine z3 ?_ | refine idxB_at (by decide) rfl ?_ | refine atB_at (by decide) (by decide) ?_ | refine getB_lit _ rfl ?_ | refine z7 ?_); conv => whnf) | trivial)))
        · have ek : k = rq.length := by simp at u; omega
          subst ek
          obtain ⟨T, hS, hpT⟩ := least_head hL hwi.rel.srt hpm hsq
          have em : mDo (mAt ops i) i o = (T, (mAt ops i).2 ++ [x]) := by unfold mDo; rw [if_pos hp, hS]
          rw [em] at hst
          refine .mk L rfl hLl ?_
          ((conv => whnf); (repeat (first | ((first | refine z1 ?_ | refine z2 ?_ | refine z3 ?_ | refine idxB_at (by decide) rfl ?_ | refine atB_at (by decide) (by decide) ?_ | refine getB_lit _ rfl ?_ | refine z7 ?_); conv => whnf) | trivial)))
          refine getB hat ?_
          ((conv => whnf); (repeat (first | ((first | refine z1 ?_ | refine z2 ?_ | refine z3 ?_ | refine idxB_at (by decide) rfl ?_ | refine atB_at (by decide) (by decide) ?_ | refine getB_lit _ rfl ?_ | refine z7 ?_); conv => whnf) | trivial)))
          refine slB 0 L rfl rfl (by omega) ?_
          ((conv => whnf); (repeat (first | ((first | refine z1 ?_ | refine z2 ?_ | refine z3 ?_ | refine idxB_at (by decide) rfl ?_ | refine atB_at (by decide) (by decide) ?_ | refine getB_lit _ rfl ?_ | refine z7 ?_); conv => whnf) | trivial)))
          refine slB (L + 1) rq.length (by show (L : Int) + 1 = _; omega) rfl (by omega) ?_
          ((conv => whnf); (repeat (first | ((first | refine z1 ?_ | refine z2 ?_ | refine z3 ?_ | refine idxB_at (by decide) rfl ?_ | refine atB_at (by decide) (by decide) ?_ | refine getB_lit _ rfl ?_ | refine z7 ?_); conv => whnf) | trivial)))
          refine .mk [(1, 2752), (2, 1856)] (i + 1) (rq.take L ++ rq.drop (L + 1)) ⟨by omega, by rw [hst]; exact hpT, ?_⟩ (by dsimp only; omega) ?_
          · refine hsq.sublist ?_
            have h1 : (rq.drop (L + 1)).Sublist (rq.drop L) := by
              rw [← List.drop_drop]; exact List.drop_sublist _ _
            have := List.Sublist.append (List.Sublist.refl (rq.take L)) h1
            rwa [List.take_append_drop] at this
          ((conv => whnf); (repeat (first | ((first | refine z1 ?_ | refine z2 ?_ | refine z3 ?_ | refine idxB_at (by decide) rfl ?_ | refine atB_at (by decide) (by decide) ?_ | refine getB_lit _ rfl ?_ | refine z7 ?_); conv => whnf) | trivial)))
          refine cb (by rw [hst]; simp) ?_
          ((conv => whnf); (repeat (first | ((first | refine z1 ?_ | refine z2 ?_ | refine z3 ?_ | refine idxB_at (by decide) rfl ?_ | refine atB_at (by decide) (by decide) ?_ | refine getB_lit _ rfl ?_ | refine z7 ?_); conv => whnf) | trivial)))
          refine cb (by simp [List.take_of_length_le]) ?_
          ((conv => whnf); (repeat (first | ((first | refine z1 ?_ | refine z2 ?_ | refine z3 ?_ | refine idxB_at (by decide) rfl ?_ | refine atB_at (by decide) (by decide) ?_ | refine getB_lit _ rfl ?_ | refine z7 ?_); conv => whnf) | trivial)))
          refine cb (by rw [hst]; simp [Item.row]) ?_
          ((conv => whnf); (repeat (first | ((first | refine z1 ?_ | refine z2 ?_ | refine z3 ?_ | refine idxB_at (by decide) rfl ?_ | refine atB_at (by decide) (by decide) ?_ | refine getB_lit _ rfl ?_ | refine z7 ?_); conv => whnf) | trivial)))
  · have ei : i = ops.length := by simp at g; omega
    subst ei
    exact .frz (frzItems rfl)
end Go.Proofs.Ytmihhkcbbdpnaaa.Abs
/- The laws of workloads: their helpers and their fixed examples. -/
namespace Go.Proofs.Ytmihhkcbbdpnaaa.Abs
open Go.Proofs
set_option maxRecDepth 10000
set_option linter.unusedSimpArgs false
set_option linter.unusedVariables false

def normT (t : Int) : Int := if t.tmod 1152921504606846977 < 0 - t.tmod 1152921504606846977 then 0 - t.tmod 1152921504606846977 else t.tmod 1152921504606846977
theorem tmod_bounds (t b : Int) (hb : 0 < b) : -b < t.tmod b ∧ t.tmod b < b := by
  refine ⟨?_, Int.tmod_lt_of_pos _ hb⟩
  rcases Int.le_total 0 t with h | h
  · have := Int.tmod_nonneg b h; omega
  · have h1 := Int.tmod_lt_of_pos (-t) hb
    rw [Int.neg_tmod] at h1
    omega
theorem normT_ok (t : Int) : 0 ≤ normT t ∧ normT t ≤ 1152921504606846976 := by
  have := tmod_bounds t 1152921504606846977 (by omega)
  unfold normT
  split <;> omega
def normOp (o : WOp) : WOp := ⟨o.pop, normT o.time⟩
def normOps (raw : List WOp) : List WOp := raw.map normOp
theorem normOps_ok (raw : List WOp) : OpsOk (normOps raw) := fun o ho => by
  obtain ⟨r, _, rfl⟩ := List.mem_map.1 ho
  exact normT_ok r.time
theorem opsC (raw : List WOp) (hl : raw.length < 1000000) : PSpec Try.prog 36 [opsV raw] (opsV (normOps raw)) := by
  have hn : ∀ (i : Nat) (o : WOp), raw[i]? = some o → (normOps raw).take (i + 1) = (normOps raw).take i ++ [normOp o] := fun i o ho => by
    rw [List.take_add_one]
    unfold normOps
    rw [List.getElem?_map, ho]; rfl
  have hln : (normOps raw).length = raw.length := by unfold normOps; simp
  refine pspec tab_ok mix Try.func36 (by kernel_rfl) rfl rfl ?_
  ((conv => whnf); (repeat (first | ((first | refine z1 ?_ | refine z2 ?_ | refine z3 ?_ | refine idxB_at (by decide) rfl ?_ | refine atB_at (by decide) (by decide) ?_ | refine getB_lit _ rfl ?_ | refine z7 ?_); conv => whnf) | trivial)))
  refine loopB tab_ok mix [0] [] (fun i : Nat => [(3, .ac 1 2 i), (4, V.int i)]) (fun i => [(1, .dat 2 (((normOps raw).take i).map WOp.row))]) (fun i => i ≤ raw.length) (fun i => raw.length - i) [] 0 rfl (by omega) (by ((conv => whnf); (repeat (first | ((first | refine z1 ?_ | refine z2 ?_ | refine z3 ?_ | refine idxB_at (by decide) rfl ?_ | refine atB_at (by decide) (by decide) ?_ | refine getB_lit _ rfl ?_ | refine z7 ?_); conv => whnf) | trivial)))) ?_
  rintro i hi
  ((conv => whnf); (repeat (first | ((first | refine z1 ?_ | refine z2 ?_ | refine z3 ?_ | refine idxB_at (by decide) rfl ?_ | refine atB_at (by decide) (by decide) ?_ | refine getB_lit _ rfl ?_ | refine z7 ?_); conv => whnf) | trivial)))
  refine br_dec (fun g => ?_) (fun g => ?_) <;> ((conv => whnf); (repeat (first | ((first | refine z1 ?_ | refine z2 ?_ | refine z3 ?_ | refine idxB_at (by decide) rfl ?_ | refine atB_at (by decide) (by decide) ?_ | refine getB_lit _ rfl ?_ | refine z7 ?_); conv => whnf) | trivial)))
  · have g' : i < raw.length := by simpa using g
    obtain ⟨o, ho⟩ := get_lt g'
    have hni := hn i o ho
    have hb := tmod_bounds o.time 1152921504606846977 (by omega)
    refine idxB ho ?_
    ((conv => whnf); (repeat (first | ((first | refine z1 ?_ | refine z2 ?_ | refine z3 ?_ | refine idxB_at (by decide) rfl ?_ | refine atB_at (by decide) (by decide) ?_ | refine getB_lit _ rfl ?_ | refine z7 ?_); conv => whnf) | trivial)))
    refine idxB ho ?_
    ((conv => whnf); (repeat (first | ((first | refine z1 ?_ | refine z2 ?_ | refine z3 ?_ | refine idxB_at (by decide) rfl ?_ | refine atB_at (by decide) (by decide) ?_ | refine getB_lit _ rfl ?_ | refine z7 ?_); conv => whnf) | trivial)))
    refine .mk [(1, 1664)] (i + 1) (by omega) (by omega) ?_
    rw [hni]
    ((conv => whnf); (repeat (first | ((first | refine z1 ?_ | refine z2 ?_ | refine z3 ?_ | refine idxB_at (by decide) rfl ?_ | refine atB_at (by decide) (by decide) ?_ | refine getB_lit _ rfl ?_ | refine z7 ?_); conv => whnf) | trivial)))
    all_goals exact cb (by simp [normOp, normT, WOp.row]) (by ((conv => whnf); (repeat (first | ((first | refine z1 ?_ | refine z2 ?_ | refine z3 ?_ | refine idxB_at (by decide) rfl ?_ | refine atB_at (by decide) (by decide) ?_ | refine getB_lit _ rfl ?_ | refine z7 ?_); conv => whnf) | trivial))))
  · have e : i = raw.length := by simp at g; omega
    subst e
    rw [List.take_of_length_le (by omega)]
    refine frzK ?_
    ((conv => whnf); (repeat (first | ((first | refine z1 ?_ | refine z2 ?_ | refine z3 ?_ | refine idxB_at (by decide) rfl ?_ | refine atB_at (by decide) (by decide) ?_ | refine getB_lit _ rfl ?_ | refine z7 ?_); conv => whnf) | trivial)))
    all_goals exact cb ⟨by simp [hln], rfl⟩ (by ((conv => whnf); (repeat (first | ((first | refine z1 ?_ | refine z2 ?_ | refine z3 ?_ | refine idxB_at (by decide) rfl ?_ | refine atB_at (by decide) (by decide) ?_ | refine getB_lit _ rfl ?_ | refine z7 ?_); conv => whnf) | trivial))))
theorem moveBoundC (n : Int) (hn : 0 ≤ n ∧ n ≤ 100000) : PSpec Try.prog 42 [V.int n] (V.int (n * 6)) := by
  refine pspec tab_ok mix Try.func42 (by kernel_rfl) rfl rfl ?_
  ((conv => whnf); (repeat (first | ((first | refine z1 ?_ | refine z2 ?_ | refine z3 ?_ | refine idxB_at (by decide) rfl ?_ | refine atB_at (by decide) (by decide) ?_ | refine getB_lit _ rfl ?_ | refine z7 ?_); conv => whnf) | trivial)))
  exact .same rfl
theorem compareBoundC (n : Int) (hn : 0 ≤ n ∧ n ≤ 100000) : PSpec Try.prog 44 [V.int n] (V.int (n * 5)) := by
  refine pspec tab_ok mix Try.func44 (by kernel_rfl) rfl rfl ?_
  ((conv => whnf); (repeat (first | ((first | refine z1 ?_ | refine z2 ?_ | refine z3 ?_ | refine idxB_at (by decide) rfl ?_ | refine atB_at (by decide) (by decide) ?_ | refine getB_lit _ rfl ?_ | refine z7 ?_); conv => whnf) | trivial)))
  exact .same rfl
theorem refMoveBoundC (n : Int) (hn : 0 ≤ n ∧ n ≤ 100000) : PSpec Try.prog 43 [V.int n] (V.int (n * 6)) := by
  refine pspec tab_ok mix Try.func43 (by kernel_rfl) rfl rfl ?_
  ((conv => whnf); (repeat (first | ((first | refine z1 ?_ | refine z2 ?_ | refine z3 ?_ | refine idxB_at (by decide) rfl ?_ | refine atB_at (by decide) (by decide) ?_ | refine getB_lit _ rfl ?_ | refine z7 ?_); conv => whnf) | trivial)))
  exact .same (by congr 2; omega)
theorem refCompareBoundC (n : Int) (hn : 0 ≤ n ∧ n ≤ 100000) : PSpec Try.prog 45 [V.int n] (V.int (n * 5)) := by
  refine pspec tab_ok mix Try.func45 (by kernel_rfl) rfl rfl ?_
  ((conv => whnf); (repeat (first | ((first | refine z1 ?_ | refine z2 ?_ | refine z3 ?_ | refine idxB_at (by decide) rfl ?_ | refine atB_at (by decide) (by decide) ?_ | refine getB_lit _ rfl ?_ | refine z7 ?_); conv => whnf) | trivial)))
  exact .same (by congr 2; omega)
/-! ### the fixed examples -/
instance : DecidableEq Item := fun a b => decidable_of_iff (a.time = b.time ∧ a.seq = b.seq ∧ a.slot = b.slot) (by cases a; cases b; simp)
def ex1 : List WOp := [⟨false, 5⟩, ⟨false, 3⟩, ⟨true, 0⟩]
def manyI : List WOp := (List.range 20).map fun i : Nat => ⟨false, 1000 - (i : Int)⟩
def manyL : List WOp := manyI ++ [⟨true, 0⟩]
theorem ex1_out : (wAt ex1 3).out = [⟨3, 1, 0⟩] := by decide +kernel
theorem ex1_num : (wAt ex1 3).ins = 2 ∧ (wAt ex1 3).pops = 1 ∧ (wAt ex1 3).q.moves = 4 ∧ (wAt ex1 3).q.compares = 2 ∧ (wAt ex1 3).depth = 0 ∧ (wAt ex1 3).len = 2 := by decide +kernel
theorem many_out : (wAt manyL 21).out = [⟨981, 19, 0⟩] := by decide +kernel
theorem many_num : (wAt manyL 21).depth = 1 ∧ (wAt manyL 21).len = 20 := by decide +kernel
theorem many_sorted : (mAt manyL 21).2.length = 1 := by decide +kernel
theorem ex1_ok : OpsOk ex1 := by unfold OpsOk; decide
theorem many_ok : OpsOk manyL := by unfold OpsOk; decide +kernel
theorem many_len : manyL.length = 21 := by decide +kernel
theorem run1 : PSpecN Try.prog 37 [opsV ex1] (.tup [itemsV [⟨3, 1, 0⟩], .agg [V.int 2, V.int 1, V.int 4, V.int 2, V.int 0, V.int 2]]) := by
  have h := runC ex1 ex1_ok (by decide)
  have e : (wAt ex1 ex1.length).res = .tup [itemsV [⟨3, 1, 0⟩], .agg [V.int 2, V.int 1, V.int 4, V.int 2, V.int 0, V.int 2]] := by
    obtain ⟨h1, h2, h3, h4, h5, h6⟩ := ex1_num
    show (wAt ex1 3).res = _
    rw [Wst.res, ex1_out, h1, h2, h3, h4, h5, h6]
  rw [e] at h; exact h
theorem run2 : PSpecN Try.prog 37 [opsV manyL] (.tup [itemsV [⟨981, 19, 0⟩], .agg [V.int (wAt manyL 21).ins, V.int (wAt manyL 21).pops, V.int (wAt manyL 21).q.moves, V.int (wAt manyL 21).q.compares, V.int 1, V.int 20]]) := by
  have h := runC manyL many_ok (by rw [many_len]; decide)
  have e : (wAt manyL manyL.length).res = .tup [itemsV [⟨981, 19, 0⟩], .agg [V.int (wAt manyL 21).ins, V.int (wAt manyL 21).pops, V.int (wAt manyL 21).q.moves, V.int (wAt manyL 21).q.compares, V.int 1, V.int 20]] := by
    obtain ⟨h5, h6⟩ := many_num
    rw [many_len, Wst.res, many_out, h5, h6]
  rw [e] at h; exact h
theorem sort2 : ∃ x : Item, PSpecN Try.prog 40 [opsV manyL] (itemsV [x]) := by
  have h := sortedWC manyL many_ok (by rw [many_len]; decide)
  rw [many_len] at h
  obtain ⟨x, hx⟩ := List.length_eq_one_iff.1 many_sorted
  rw [hx] at h
  exact ⟨x, h⟩
set_option maxHeartbeats 1000000 in
theorem headC9 : PSpec Try.prog 35 [] (V.bool true) := by
  have hm : ∀ i, i < 20 → manyI[i]? = some ⟨false, 1000 - (i : Int)⟩ := fun i hi => by
    unfold manyI
    rw [List.getElem?_map, List.getElem?_range hi]; rfl
  have hml : manyI.length = 20 := by unfold manyI; simp
  have hmm : manyI ++ [⟨true, 0⟩] = manyL := rfl
  obtain ⟨sx, hsx⟩ := sort2
  refine pspec tab_ok mix Try.func35 (by kernel_rfl) rfl rfl ?_
  ((conv => whnf); (repeat (first | ((first | refine z1 ?_ | refine z2 ?_ | refine z3 ?_ | refine idxB_at (by decide) rfl ?_ | refine atB_at (by decide) (by decide) ?_ | refine getB_lit _ rfl ?_ | refine z7 ?_); conv => whnf) | trivial)))
  refine callN run1 ?_
  ((conv => whnf); (repeat (first | ((first | refine z1 ?_ | refine z2 ?_ | refine z3 ?_ | refine idxB_at (by decide) rfl ?_ | refine atB_at (by decide) (by decide) ?_ | refine getB_lit _ rfl ?_ | refine z7 ?_); conv => whnf) | trivial)))
  generalize manyI = mI at *
  refine loopB tab_ok mix [1, 2] [576] (fun i : Nat => [(3, .ac 1 2 i), (4, V.int i)]) (fun i => [(1, .dat 2 ((mI.take i).map WOp.row))]) (fun i => i ≤ 20) (fun i => 20 - i) [] 0 rfl (by omega) (by ((conv => whnf); (repeat (first | ((first | refine z1 ?_ | refine z2 ?_ | refine z3 ?_ | refine idxB_at (by decide) rfl ?_ | refine atB_at (by decide) (by decide) ?_ | refine getB_lit _ rfl ?_ | refine z7 ?_); conv => whnf) | trivial)))) ?_
  rintro i hi
  ((conv => whnf); (repeat (first | ((first | refine z1 ?_ | refine z2 ?_ | refine z3 ?_ | refine idxB_at (by decide) rfl ?_ | refine atB_at (by decide) (by decide) ?_ | refine getB_lit _ rfl ?_ | refine z7 ?_); conv => whnf) | trivial)))
  refine br_dec (fun g => ?_) (fun g => ?_) <;> ((conv => whnf); (repeat (first | ((first | refine z1 ?_ | refine z2 ?_ | refine z3 ?_ | refine idxB_at (by decide) rfl ?_ | refine atB_at (by decide) (by decide) ?_ | refine getB_lit _ rfl ?_ | refine z7 ?_); conv => whnf) | trivial)))
  · have g' : i < 20 := by omega
    have hni : mI.take (i + 1) = mI.take i ++ [⟨false, 1000 - (i : Int)⟩] := by rw [List.take_add_one, hm i g']; rfl
    refine .mk [(1, 1344)] (i + 1) (by omega) (by omega) ?_
    rw [hni]
    ((conv => whnf); (repeat (first | ((first | refine z1 ?_ | refine z2 ?_ | refine z3 ?_ | refine idxB_at (by decide) rfl ?_ | refine atB_at (by decide) (by decide) ?_ | refine getB_lit _ rfl ?_ | refine z7 ?_); conv => whnf) | trivial)))
    all_goals exact cb (by simp [WOp.row]) (by ((conv => whnf); (repeat (first | ((first | refine z1 ?_ | refine z2 ?_ | refine z3 ?_ | refine idxB_at (by decide) rfl ?_ | refine atB_at (by decide) (by decide) ?_ | refine getB_lit _ rfl ?_ | refine z7 ?_); conv => whnf) | trivial))))
  · have e : i = 20 := by omega
    subst e
    rw [List.take_of_length_le (by omega)]
    refine callN run2 ?_
    ((conv => whnf); (repeat (first | ((first | refine z1 ?_ | refine z2 ?_ | refine z3 ?_ | refine idxB_at (by decide) rfl ?_ | refine atB_at (by decide) (by decide) ?_ | refine getB_lit _ rfl ?_ | refine z7 ?_); conv => whnf) | trivial)))
    refine cb ⟨by simp [hml], by rw [← hmm]; simp [WOp.row]⟩ ?_
    ((conv => whnf); (repeat (first | ((first | refine z1 ?_ | refine z2 ?_ | refine z3 ?_ | refine idxB_at (by decide) rfl ?_ | refine atB_at (by decide) (by decide) ?_ | refine getB_lit _ rfl ?_ | refine z7 ?_); conv => whnf) | trivial)))
    refine eqB [true, true, true] (by kernel_rfl) rfl rfl rfl ?_
    ((conv => whnf); (repeat (first | ((first | refine z1 ?_ | refine z2 ?_ | refine z3 ?_ | refine idxB_at (by decide) rfl ?_ | refine atB_at (by decide) (by decide) ?_ | refine getB_lit _ rfl ?_ | refine z7 ?_); conv => whnf) | trivial)))
    refine eqB [true, true, true, true, true, true] (by kernel_rfl) rfl rfl rfl ?_
    ((conv => whnf); (repeat (first | ((first | refine z1 ?_ | refine z2 ?_ | refine z3 ?_ | refine idxB_at (by decide) rfl ?_ | refine atB_at (by decide) (by decide) ?_ | refine getB_lit _ rfl ?_ | refine z7 ?_); conv => whnf) | trivial)))
    refine callB (moveBoundC 2 (by omega)) ?_
    ((conv => whnf); (repeat (first | ((first | refine z1 ?_ | refine z2 ?_ | refine z3 ?_ | refine idxB_at (by decide) rfl ?_ | refine atB_at (by decide) (by decide) ?_ | refine getB_lit _ rfl ?_ | refine z7 ?_); conv => whnf) | trivial)))
    refine callB (compareBoundC 2 (by omega)) ?_
    ((conv => whnf); (repeat (first | ((first | refine z1 ?_ | refine z2 ?_ | refine z3 ?_ | refine idxB_at (by decide) rfl ?_ | refine atB_at (by decide) (by decide) ?_ | refine getB_lit _ rfl ?_ | refine z7 ?_); conv => whnf) | trivial)))
    refine callN hsx ?_
    ((conv => whnf); (repeat (first | ((first | refine z1 ?_ | refine z2 ?_ | refine z3 ?_ | refine idxB_at (by decide) rfl ?_ | refine atB_at (by decide) (by decide) ?_ | refine getB_lit _ rfl ?_ | refine z7 ?_); conv => whnf) | trivial)))
    refine cb ⟨by simp [hml], by rw [← hmm]; simp [WOp.row]⟩ ?_
    ((conv => whnf); (repeat (first | ((first | refine z1 ?_ | refine z2 ?_ | refine z3 ?_ | refine idxB_at (by decide) rfl ?_ | refine atB_at (by decide) (by decide) ?_ | refine getB_lit _ rfl ?_ | refine z7 ?_); conv => whnf) | trivial)))
    exact .same rfl
end Go.Proofs.Ytmihhkcbbdpnaaa.Abs
/- Plain law of workloads: drained to the end, and shifted. -/
namespace Go.Proofs.Ytmihhkcbbdpnaaa.Abs
set_option linter.unusedSimpArgs false
set_option linter.unusedVariables false

theorem mAt_app (l p : List WOp) : ∀ i, i ≤ l.length → mAt (l ++ p) i = mAt l i
  | 0, _ => rfl
  | i + 1, h => by
    have ih := mAt_app l p i (by omega)
    rw [mAt, mAt, List.getElem?_append_left (by omega), ih]
theorem insN_app (l p : List WOp) : ∀ i, i ≤ l.length → insN (l ++ p) i = insN l i
  | 0, _ => rfl
  | i + 1, h => by
    have ih := insN_app l p i (by omega)
    rw [insN, insN, List.getElem?_append_left (by omega), ih]
def popsL (k : Nat) : List WOp := List.replicate k ⟨true, 0⟩
theorem popsL_get (l : List WOp) {k j : Nat} (h : j < k) : (l ++ popsL k)[l.length + j]? = some ⟨true, 0⟩ := by
  rw [List.getElem?_append_right (by omega), show l.length + j - l.length = j by omega]
  unfold popsL
  rw [List.getElem?_replicate, if_pos h]
theorem mAt_pops (l : List WOp) (k : Nat) : ∀ j, j ≤ k → mAt (l ++ popsL k) (l.length + j) = ((mAt l l.length).1.drop j, (mAt l l.length).2 ++ (mAt l l.length).1.take j)
  | 0, _ => by
    rw [Nat.add_zero, mAt_app l _ l.length (Nat.le_refl _)]; simp
  | j + 1, h => by
    have ih := mAt_pops l k j (by omega)
    rw [← Nat.add_assoc, mAt, popsL_get l (by omega)]
    dsimp only
    rw [ih]
    unfold mDo
    rw [if_pos rfl]
    dsimp only
    generalize (mAt l l.length).1 = S
    generalize (mAt l l.length).2 = O
    cases hd : S.drop j with
    | nil =>
      dsimp only
      have hl : S.length ≤ j := List.drop_eq_nil_iff.1 hd
      rw [List.drop_eq_nil_of_le (by omega), List.take_of_length_le hl, List.take_of_length_le (by omega)]
    | cons x t =>
      dsimp only
      have hlt : j < S.length := Nat.lt_of_not_le fun hge => by rw [List.drop_eq_nil_of_le hge] at hd; cases hd
      have hx : S[j]? = some x := by
        have := List.getElem?_drop (xs := S) (i := j) (j := 0)
        rw [hd, Nat.add_zero] at this
        rw [← this]; rfl
      have ht : S.drop (j + 1) = t := by
        have := List.drop_drop (i := 1) (j := j) (l := S)
        rw [hd] at this
        rw [← this]; rfl
      rw [ht, List.take_add_one, hx]
      simp
theorem insN_pops (l : List WOp) (k : Nat) : ∀ j, j ≤ k → insN (l ++ popsL k) (l.length + j) = insN l l.length
  | 0, _ => insN_app l _ l.length (Nat.le_refl _)
  | j + 1, h => by
    rw [← Nat.add_assoc, insN, popsL_get l (by omega)]
    dsimp only
    rw [if_pos rfl]
    exact insN_pops l k j (by omega)
theorem popsL_ok {l : List WOp} (h : OpsOk l) (k : Nat) : OpsOk (l ++ popsL k) := fun o ho => by
  rcases List.mem_append.1 ho with ho | ho
  · exact h o ho
  · rw [List.eq_of_mem_replicate ho]; decide
/-- where the items come from -/
structure GInv (ops : List WOp) (i : Nat) : Prop where
  known : ∀ x ∈ (mAt ops i).1 ++ (mAt ops i).2, ∃ k : Nat, x.seq = k ∧ k < i ∧ ops[k]? = some ⟨false, x.time⟩
  dist : ((mAt ops i).1 ++ (mAt ops i).2).Pairwise fun a b => a.seq ≠ b.seq
theorem GInv.mk_iff' {ops : List WOp} {i : Nat} : GInv ops i ↔ (∀ x ∈ (mAt ops i).1 ++ (mAt ops i).2, ∃ k : Nat, x.seq = k ∧ k < i ∧ ops[k]? = some ⟨false, x.time⟩) ∧ ((mAt ops i).1 ++ (mAt ops i).2).Pairwise fun a b => a.seq ≠ b.seq :=
  ⟨fun h => ⟨h.known, h.dist⟩, fun h => ⟨h.1, h.2⟩⟩
theorem gInv_all (ops : List WOp) : ∀ i, GInv ops i
  | 0 => ⟨by simp [mAt], by simp [mAt]⟩
  | i + 1 => by
    have ih := gInv_all ops i
    cases hx : ops[i]? with
    | none =>
      have e : mAt ops (i + 1) = mAt ops i := by rw [mAt, hx]
      rw [GInv.mk_iff'] at *
      exact ⟨by rw [e]; exact fun x hm => by obtain ⟨k, h1, h2, h3⟩ := ih.1 x hm; exact ⟨k, h1, by omega, h3⟩, by rw [e]; exact ih.2⟩
    | some o =>
      have e : mAt ops (i + 1) = mDo (mAt ops i) i o := by rw [mAt, hx]
      rw [GInv.mk_iff'] at *
      rw [e]
      cases hp : o.pop with
      | false =>
        have em : mDo (mAt ops i) i o = (insI (mAt ops i).1 ⟨o.time, i, 0⟩, (mAt ops i).2) := by unfold mDo; rw [if_neg (by rw [hp]; simp)]
        rw [em]
        have hpm : (insI (mAt ops i).1 ⟨o.time, i, 0⟩ ++ (mAt ops i).2).Perm (⟨o.time, i, 0⟩ :: ((mAt ops i).1 ++ (mAt ops i).2)) := (insI_perm _ _).append_right _
        refine ⟨fun x hm => ?_, ?_⟩
        · rcases List.mem_cons.1 (hpm.mem_iff.1 hm) with rfl | hm
          · exact ⟨i, rfl, by omega, by rw [hx, ← hp]⟩
          · obtain ⟨k, h1, h2, h3⟩ := ih.1 x hm; exact ⟨k, h1, by omega, h3⟩
        · refine (hpm.pairwise_iff fun h => Ne.symm h).2 (List.pairwise_cons.2 ⟨fun x hm => ?_, ih.2⟩)
          obtain ⟨k, h1, h2, h3⟩ := ih.1 x hm
          dsimp only; omega
      | true =>
        cases hS : (mAt ops i).1 with
        | nil =>
          have em : mDo (mAt ops i) i o = mAt ops i := by unfold mDo; rw [if_pos hp, hS]
          rw [em]
          exact ⟨fun x hm => by obtain ⟨k, h1, h2, h3⟩ := ih.1 x hm; exact ⟨k, h1, by omega, h3⟩, ih.2⟩
        | cons x T =>
          have em : mDo (mAt ops i) i o = (T, (mAt ops i).2 ++ [x]) := by unfold mDo; rw [if_pos hp, hS]
          rw [em]
          rw [hS] at ih
          have hpm : (T ++ ((mAt ops i).2 ++ [x])).Perm (x :: T ++ (mAt ops i).2) := by
            rw [← List.append_assoc]
            exact List.perm_append_comm
          refine ⟨fun y hm => ?_, (hpm.pairwise_iff fun h => Ne.symm h).2 ih.2⟩
          obtain ⟨k, h1, h2, h3⟩ := ih.1 y (hpm.mem_iff.1 hm); exact ⟨k, h1, by omega, h3⟩
/-! ### shifted -/
def shI (c : Int) (x : Item) : Item := ⟨x.time + c, x.seq, x.slot⟩
def shOp (c : Int) (o : WOp) : WOp := ⟨o.pop, o.time + c⟩
theorem cmp_shift (c : Int) (x y : Item) : cmpItem (shI c x) (shI c y) = cmpItem x y := by
  have h : cmpI (x.time + c) (y.time + c) = cmpI x.time y.time := by
    unfold cmpI
    have h1 : (x.time + c < y.time + c) = (x.time < y.time) := propext ⟨fun h => by omega, fun h => by omega⟩
    have h2 : (y.time + c < x.time + c) = (y.time < x.time) := propext ⟨fun h => by omega, fun h => by omega⟩
    simp only [h1, h2]
  unfold cmpItem shI
  dsimp only
  rw [h]
theorem posI_shift (c : Int) (e : Item) : ∀ L : List Item, posI (L.map (shI c)) (shI c e) = posI L e
  | [] => rfl
  | a :: L => by
    have ih := posI_shift c e L
    unfold posI at *
    rw [List.map_cons, List.takeWhile_cons, List.takeWhile_cons, cmp_shift]
    split
    · rw [List.length_cons, List.length_cons, ih]
    · rfl
theorem insI_shift (c : Int) (e : Item) (L : List Item) : insI (L.map (shI c)) (shI c e) = (insI L e).map (shI c) := by
  unfold insI
  rw [posI_shift]; simp
theorem mAt_shift (c : Int) (ops : List WOp) : ∀ i, mAt (ops.map (shOp c)) i = ((mAt ops i).1.map (shI c), (mAt ops i).2.map (shI c))
  | 0 => rfl
  | i + 1 => by
    have ih := mAt_shift c ops i
    rw [mAt, mAt, List.getElem?_map]
    cases hx : ops[i]? with
    | none => exact ih
    | some o =>
      rw [Option.map_some]
      dsimp only
      rw [ih]
      unfold mDo
      cases hp : o.pop with
      | false =>
        rw [if_neg (by unfold shOp; rw [hp]; simp), if_neg (by simp)]
        exact congrArg (fun z => (z, (mAt ops i).2.map (shI c))) (insI_shift c ⟨o.time, i, 0⟩ (mAt ops i).1)
      | true =>
        rw [if_pos (by unfold shOp; exact hp), if_pos rfl]
        generalize mAt ops i = m
        obtain ⟨S, O⟩ := m
        cases S with
        | nil => rfl
        | cons x T => simp
theorem insN_shift (c : Int) (ops : List WOp) : ∀ i, insN (ops.map (shOp c)) i = insN ops i
  | 0 => rfl
  | i + 1 => by
    have ih := insN_shift c ops i
    rw [insN, insN, List.getElem?_map]
    cases hx : ops[i]? with
    | none => exact ih
    | some o => rw [Option.map_some]; dsimp only; rw [ih]; rfl
theorem len_shift (c : Int) {ops : List WOp} (h1 : OpsOk ops) (h2 : OpsOk (ops.map (shOp c))) (hl : ops.length ≤ 1000) : ∀ i, i ≤ ops.length → (wAt (ops.map (shOp c)) i).len = (wAt ops i).len
  | 0, _ => rfl
  | i + 1, hi => by
    have ih := len_shift c h1 h2 hl i (by omega)
    have w1 := wInv_all h1 hl (i + 1) hi
    have w2 := wInv_all h2 (by simpa using hl) (i + 1) (by simpa using hi)
    obtain ⟨o, hx⟩ := get_lt (show i < ops.length by omega)
    have e1 : wAt ops (i + 1) = wMeas (wDo (wAt ops i) i o) := by rw [wAt, hx]
    have e2 : wAt (ops.map (shOp c)) (i + 1) = wMeas (wDo (wAt (ops.map (shOp c)) i) i (shOp c o)) := by rw [wAt, List.getElem?_map, hx]; rfl
    have p1 := w1.rel.perm.length_eq
    have p2 := w2.rel.perm.length_eq
    rw [mAt_shift, List.length_map, p1] at p2
    rw [e1] at p2 ⊢
    rw [e2] at p2 ⊢
    have k1 : ∀ (w : Wst) (j : Nat) (o : WOp), (wDo w j o).len = w.len := fun w j o => by
      unfold wDo
      split
      · unfold wPop; split <;> rfl
      · rfl
    have q1 : ∀ w : Wst, (wMeas w).q = w.q := fun w => rfl
    rw [q1, q1] at p2
    unfold wMeas
    dsimp only
    rw [k1, k1, ih, p2]
end Go.Proofs.Ytmihhkcbbdpnaaa.Abs
/- Laws of workloads as contracts: equal to a sorted list, bounded, as the reference. -/
namespace Go.Proofs.Ytmihhkcbbdpnaaa.Abs
open Go.Proofs
set_option maxRecDepth 10000
set_option linter.unusedSimpArgs false
set_option linter.unusedVariables false

theorem normOps_len (raw : List WOp) : (normOps raw).length = raw.length := by unfold normOps; simp
theorem wEquivalent (raw : List WOp) : PSpec Try.prog 11 [opsV raw] (V.bool true) := by
  have hok := normOps_ok raw
  have hlen := normOps_len raw
  refine pspec tab_ok mix Try.func11 (by kernel_rfl) rfl rfl ?_
  ((conv => whnf); (repeat (first | ((first | refine z1 ?_ | refine z2 ?_ | refine z3 ?_ | refine idxB_at (by decide) rfl ?_ | refine atB_at (by decide) (by decide) ?_ | refine getB_lit _ rfl ?_ | refine z7 ?_); conv => whnf) | trivial)))
  refine callB headC9 ?_
  ((conv => whnf); (repeat (first | ((first | refine z1 ?_ | refine z2 ?_ | refine z3 ?_ | refine idxB_at (by decide) rfl ?_ | refine atB_at (by decide) (by decide) ?_ | refine getB_lit _ rfl ?_ | refine z7 ?_); conv => whnf) | trivial)))
  refine br_dec (fun g => ?_) (fun g => ?_) <;> ((conv => whnf); (repeat (first | ((first | refine z1 ?_ | refine z2 ?_ | refine z3 ?_ | refine idxB_at (by decide) rfl ?_ | refine atB_at (by decide) (by decide) ?_ | refine getB_lit _ rfl ?_ | refine z7 ?_); conv => whnf) | trivial)))
  · exact .same rfl
  have hl : raw.length ≤ 200 := by simp at g; omega
  refine callB (opsC raw (by omega)) ?_
  have hw := wInv_all hok (by omega) _ (Nat.le_refl _)
  have hsz : (mAt (normOps raw) (normOps raw).length).2.length < 1000000 := by have := hw.len; have := insN_le (normOps raw) (normOps raw).length; omega
  have hout := hw.out
  ((conv => whnf); (repeat (first | ((first | refine z1 ?_ | refine z2 ?_ | refine z3 ?_ | refine idxB_at (by decide) rfl ?_ | refine atB_at (by decide) (by decide) ?_ | refine getB_lit _ rfl ?_ | refine z7 ?_); conv => whnf) | trivial)))
  refine callN (runC (normOps raw) hok (by omega)) ?_
  ((conv => whnf); (repeat (first | ((first | refine z1 ?_ | refine z2 ?_ | refine z3 ?_ | refine idxB_at (by decide) rfl ?_ | refine atB_at (by decide) (by decide) ?_ | refine getB_lit _ rfl ?_ | refine z7 ?_); conv => whnf) | trivial)))
  refine callN (sortedWC (normOps raw) hok (by omega)) ?_
  ((conv => whnf); (repeat (first | ((first | refine z1 ?_ | refine z2 ?_ | refine z3 ?_ | refine idxB_at (by decide) rfl ?_ | refine atB_at (by decide) (by decide) ?_ | refine getB_lit _ rfl ?_ | refine z7 ?_); conv => whnf) | trivial)))
  rw [hout]
  refine callB (sameItemsC _ hsz) ?_
  ((conv => whnf); (repeat (first | ((first | refine z1 ?_ | refine z2 ?_ | refine z3 ?_ | refine idxB_at (by decide) rfl ?_ | refine atB_at (by decide) (by decide) ?_ | refine getB_lit _ rfl ?_ | refine z7 ?_); conv => whnf) | trivial)))
  exact .same rfl
theorem wMatches (raw : List WOp) (n : Int) (hn : 0 ≤ n ∧ n ≤ 65535) : PSpec Try.prog 9 [opsV raw, .c (.int .u16 n)] (V.bool true) := by
  have hok := normOps_ok raw
  have hlen := normOps_len raw
  refine pspec tab_ok mix Try.func9 (by kernel_rfl) rfl rfl ?_
  ((conv => whnf); (repeat (first | ((first | refine z1 ?_ | refine z2 ?_ | refine z3 ?_ | refine idxB_at (by decide) rfl ?_ | refine atB_at (by decide) (by decide) ?_ | refine getB_lit _ rfl ?_ | refine z7 ?_); conv => whnf) | trivial)))
  refine callB headC9 ?_
  ((conv => whnf); (repeat (first | ((first | refine z1 ?_ | refine z2 ?_ | refine z3 ?_ | refine idxB_at (by decide) rfl ?_ | refine atB_at (by decide) (by decide) ?_ | refine getB_lit _ rfl ?_ | refine z7 ?_); conv => whnf) | trivial)))
  refine br_dec (fun g => ?_) (fun g => ?_) <;> ((conv => whnf); (repeat (first | ((first | refine z1 ?_ | refine z2 ?_ | refine z3 ?_ | refine idxB_at (by decide) rfl ?_ | refine atB_at (by decide) (by decide) ?_ | refine getB_lit _ rfl ?_ | refine z7 ?_); conv => whnf) | trivial)))
  · exact .same rfl
  have hl : raw.length ≤ 150 := by simp at g; omega
  refine callB (opsC raw (by omega)) ?_
  have hw := wInv_all hok (by omega) _ (Nat.le_refl _)
  have hsz : (mAt (normOps raw) (normOps raw).length).2.length < 1000000 := by have := hw.len; have := insN_le (normOps raw) (normOps raw).length; omega
  have hout := hw.out
  have hsz2 : (wAt (normOps raw) (normOps raw).length).out.length < 1000000 := by rw [hout]; exact hsz
  ((conv => whnf); (repeat (first | ((first | refine z1 ?_ | refine z2 ?_ | refine z3 ?_ | refine idxB_at (by decide) rfl ?_ | refine atB_at (by decide) (by decide) ?_ | refine getB_lit _ rfl ?_ | refine z7 ?_); conv => whnf) | trivial)))
  refine callN (runC (normOps raw) hok (by omega)) ?_
  ((conv => whnf); (repeat (first | ((first | refine z1 ?_ | refine z2 ?_ | refine z3 ?_ | refine idxB_at (by decide) rfl ?_ | refine atB_at (by decide) (by decide) ?_ | refine getB_lit _ rfl ?_ | refine z7 ?_); conv => whnf) | trivial)))
  refine callN (refRunC (normOps raw) hok (by omega)) ?_
  ((conv => whnf); (repeat (first | ((first | refine z1 ?_ | refine z2 ?_ | refine z3 ?_ | refine idxB_at (by decide) rfl ?_ | refine atB_at (by decide) (by decide) ?_ | refine getB_lit _ rfl ?_ | refine z7 ?_); conv => whnf) | trivial)))
  refine callB (sameItemsC _ hsz2) ?_
  ((conv => whnf); (repeat (first | ((first | refine z1 ?_ | refine z2 ?_ | refine z3 ?_ | refine idxB_at (by decide) rfl ?_ | refine atB_at (by decide) (by decide) ?_ | refine getB_lit _ rfl ?_ | refine z7 ?_); conv => whnf) | trivial)))
  refine eqB [true, true, true, true, true, true] (by kernel_rfl) rfl rfl rfl ?_
  ((conv => whnf); (repeat (first | ((first | refine z1 ?_ | refine z2 ?_ | refine z3 ?_ | refine idxB_at (by decide) rfl ?_ | refine atB_at (by decide) (by decide) ?_ | refine getB_lit _ rfl ?_ | refine z7 ?_); conv => whnf) | trivial)))
  refine br_eqI (p := True) (by simp) (fun _ => ?_) (fun h => absurd trivial h)
  ((conv => whnf); (repeat (first | ((first | refine z1 ?_ | refine z2 ?_ | refine z3 ?_ | refine idxB_at (by decide) rfl ?_ | refine atB_at (by decide) (by decide) ?_ | refine getB_lit _ rfl ?_ | refine z7 ?_); conv => whnf) | trivial)))
  refine callN (sortedWC (normOps raw) hok (by omega)) ?_
  ((conv => whnf); (repeat (first | ((first | refine z1 ?_ | refine z2 ?_ | refine z3 ?_ | refine idxB_at (by decide) rfl ?_ | refine atB_at (by decide) (by decide) ?_ | refine getB_lit _ rfl ?_ | refine z7 ?_); conv => whnf) | trivial)))
  refine callN (refSortedWC (normOps raw) hok (by omega)) ?_
  ((conv => whnf); (repeat (first | ((first | refine z1 ?_ | refine z2 ?_ | refine z3 ?_ | refine idxB_at (by decide) rfl ?_ | refine atB_at (by decide) (by decide) ?_ | refine getB_lit _ rfl ?_ | refine z7 ?_); conv => whnf) | trivial)))
  refine callB (sameItemsC _ hsz) ?_
  ((conv => whnf); (repeat (first | ((first | refine z1 ?_ | refine z2 ?_ | refine z3 ?_ | refine idxB_at (by decide) rfl ?_ | refine atB_at (by decide) (by decide) ?_ | refine getB_lit _ rfl ?_ | refine z7 ?_); conv => whnf) | trivial)))
  refine callB (moveBoundC n (by omega)) ?_
  ((conv => whnf); (repeat (first | ((first | refine z1 ?_ | refine z2 ?_ | refine z3 ?_ | refine idxB_at (by decide) rfl ?_ | refine atB_at (by decide) (by decide) ?_ | refine getB_lit _ rfl ?_ | refine z7 ?_); conv => whnf) | trivial)))
  refine callB (refMoveBoundC n (by omega)) ?_
  ((conv => whnf); (repeat (first | ((first | refine z1 ?_ | refine z2 ?_ | refine z3 ?_ | refine idxB_at (by decide) rfl ?_ | refine atB_at (by decide) (by decide) ?_ | refine getB_lit _ rfl ?_ | refine z7 ?_); conv => whnf) | trivial)))
  refine br_dec (fun _ => ?_) (fun h => absurd rfl h)
  ((conv => whnf); (repeat (first | ((first | refine z1 ?_ | refine z2 ?_ | refine z3 ?_ | refine idxB_at (by decide) rfl ?_ | refine atB_at (by decide) (by decide) ?_ | refine getB_lit _ rfl ?_ | refine z7 ?_); conv => whnf) | trivial)))
  refine callB (compareBoundC n (by omega)) ?_
  ((conv => whnf); (repeat (first | ((first | refine z1 ?_ | refine z2 ?_ | refine z3 ?_ | refine idxB_at (by decide) rfl ?_ | refine atB_at (by decide) (by decide) ?_ | refine getB_lit _ rfl ?_ | refine z7 ?_); conv => whnf) | trivial)))
  refine callB (refCompareBoundC n (by omega)) ?_
  ((conv => whnf); (repeat (first | ((first | refine z1 ?_ | refine z2 ?_ | refine z3 ?_ | refine idxB_at (by decide) rfl ?_ | refine atB_at (by decide) (by decide) ?_ | refine getB_lit _ rfl ?_ | refine z7 ?_); conv => whnf) | trivial)))
  exact .same (by simp)
set_option maxRecDepth 100000 in
set_option maxHeartbeats 4000000 in
theorem wBounds (raw : List WOp) : PSpec Try.prog 10 [opsV raw] (V.bool true) := by
  have hok := normOps_ok raw
  have hlen := normOps_len raw
  refine pspec tab_ok mix Try.func10 (by kernel_rfl) rfl rfl ?_
  ((conv => whnf); (repeat (first | ((first | refine z1 ?_ | refine z2 ?_ | refine z3 ?_ | refine idxB_at (by decide) rfl ?_ | refine atB_at (by decide) (by decide) ?_ | refine getB_lit _ rfl ?_ | refine z7 ?_); conv => whnf) | trivial)))
  refine callB headC9 ?_
  ((conv => whnf); (repeat (first | ((first | refine z1 ?_ | refine z2 ?_ | refine z3 ?_ | refine idxB_at (by decide) rfl ?_ | refine atB_at (by decide) (by decide) ?_ | refine getB_lit _ rfl ?_ | refine z7 ?_); conv => whnf) | trivial)))
  refine br_dec (fun g => ?_) (fun g => ?_) <;> ((conv => whnf); (repeat (first | ((first | refine z1 ?_ | refine z2 ?_ | refine z3 ?_ | refine idxB_at (by decide) rfl ?_ | refine atB_at (by decide) (by decide) ?_ | refine getB_lit _ rfl ?_ | refine z7 ?_); conv => whnf) | trivial)))
  · exact .same rfl
  have hl : raw.length ≤ 200 := by simp at g; omega
  refine callB (opsC raw (by omega)) ?_
  have hw := wInv_all hok (by omega) _ (Nat.le_refl _)
  have hnl := insN_le (normOps raw) (normOps raw).length
  have h1 := hw.out
  have h2 := hw.ins
  have h3 := hw.pops
  have h4 := hw.mv
  have h5 := hw.cp
  have h6 := hw.depth
  have h7 := hw.mlen
  ((conv => whnf); (repeat (first | ((first | refine z1 ?_ | refine z2 ?_ | refine z3 ?_ | refine idxB_at (by decide) rfl ?_ | refine atB_at (by decide) (by decide) ?_ | refine getB_lit _ rfl ?_ | refine z7 ?_); conv => whnf) | trivial)))
  refine callN (runC (normOps raw) hok (by omega)) ?_
  generalize hq : wAt (normOps raw) (normOps raw).length = w at *
  obtain ⟨ins, pops, depth, len, q, out⟩ := w
  dsimp only at h1 h2 h3 h4 h5 h6 h7
  ((conv => whnf); (repeat (first | ((first | refine z1 ?_ | refine z2 ?_ | refine z3 ?_ | refine idxB_at (by decide) rfl ?_ | refine atB_at (by decide) (by decide) ?_ | refine getB_lit _ rfl ?_ | refine z7 ?_); conv => whnf) | trivial)))
  refine loopB tab_ok mix [3, 4, 5, 6] [896] (fun i : Nat => [(7, V.int (insN (normOps raw) i)), (8, V.int i)]) (fun i => []) (fun i => i ≤ (normOps raw).length) (fun i => (normOps raw).length - i) [] 0 rfl (by omega) (by ((conv => whnf); (repeat (first | ((first | refine z1 ?_ | refine z2 ?_ | refine z3 ?_ | refine idxB_at (by decide) rfl ?_ | refine atB_at (by decide) (by decide) ?_ | refine getB_lit _ rfl ?_ | refine z7 ?_); conv => whnf) | trivial)))) ?_
  rintro i hi
  have hni := insN_le (normOps raw) i
  ((conv => whnf); (repeat (first | ((first | refine z1 ?_ | refine z2 ?_ | refine z3 ?_ | refine idxB_at (by decide) rfl ?_ | refine atB_at (by decide) (by decide) ?_ | refine getB_lit _ rfl ?_ | refine z7 ?_); conv => whnf) | trivial)))
  refine br_dec (fun u => ?_) (fun u => ?_) <;> ((conv => whnf); (repeat (first | ((first | refine z1 ?_ | refine z2 ?_ | refine z3 ?_ | refine idxB_at (by decide) rfl ?_ | refine atB_at (by decide) (by decide) ?_ | refine getB_lit _ rfl ?_ | refine z7 ?_); conv => whnf) | trivial)))
  · have u' : i < (normOps raw).length := by simpa using u
    obtain ⟨o, hx⟩ := get_lt u'
    have hn1 : insN (normOps raw) (i + 1) = if o.pop = true then insN (normOps raw) i else insN (normOps raw) i + 1 := by rw [insN, hx]
    refine idxB hx ?_
    ((conv => whnf); (repeat (first | ((first | refine z1 ?_ | refine z2 ?_ | refine z3 ?_ | refine idxB_at (by decide) rfl ?_ | refine atB_at (by decide) (by decide) ?_ | refine getB_lit _ rfl ?_ | refine z7 ?_); conv => whnf) | trivial)))
    cases hp : o.pop with
    | true =>
      rw [if_pos hp] at hn1
      ((conv => whnf); (repeat (first | ((first | refine z1 ?_ | refine z2 ?_ | refine z3 ?_ | refine idxB_at (by decide) rfl ?_ | refine atB_at (by decide) (by decide) ?_ | refine getB_lit _ rfl ?_ | refine z7 ?_); conv => whnf) | trivial)))
      refine .mk [] (i + 1) (by omega) (by omega) ?_
      rw [hn1]
      ((conv => whnf); (repeat (first | ((first | refine z1 ?_ | refine z2 ?_ | refine z3 ?_ | refine idxB_at (by decide) rfl ?_ | refine atB_at (by decide) (by decide) ?_ | refine getB_lit _ rfl ?_ | refine z7 ?_); conv => whnf) | trivial)))
    | false =>
      rw [if_neg (by rw [hp]; simp)] at hn1
      ((conv => whnf); (repeat (first | ((first | refine z1 ?_ | refine z2 ?_ | refine z3 ?_ | refine idxB_at (by decide) rfl ?_ | refine atB_at (by decide) (by decide) ?_ | refine getB_lit _ rfl ?_ | refine z7 ?_); conv => whnf) | trivial)))
      refine .mk [] (i + 1) (by omega) (by omega) ?_
      rw [hn1]
      ((conv => whnf); (repeat (first | ((first | refine z1 ?_ | refine z2 ?_ | refine z3 ?_ | refine idxB_at (by decide) rfl ?_ | refine atB_at (by decide) (by decide) ?_ | refine getB_lit _ rfl ?_ | refine z7 ?_); conv => whnf) | trivial)))
  · have ei : i = (normOps raw).length := by simp at u; omega
    subst ei
    generalize insN (normOps raw) (normOps raw).length = n at *
    have hlo : (out.length : Int) = pops := by rw [h1, h3]
    refine br_dec (fun _ => ?_) (fun h => absurd h2 h)
    ((conv => whnf); (repeat (first | ((first | refine z1 ?_ | refine z2 ?_ | refine z3 ?_ | refine idxB_at (by decide) rfl ?_ | refine atB_at (by decide) (by decide) ?_ | refine getB_lit _ rfl ?_ | refine z7 ?_); conv => whnf) | exact True.intro)))
    refine br_dec (fun _ => ?_) (fun h => absurd (by dsimp only; rw [List.length_map]; omega) h)
    ((conv => whnf); (repeat (first | ((first | refine z1 ?_ | refine z2 ?_ | refine z3 ?_ | refine idxB_at (by decide) rfl ?_ | refine atB_at (by decide) (by decide) ?_ | refine getB_lit _ rfl ?_ | refine z7 ?_); conv => whnf) | exact True.intro)))
    refine br_dec (fun _ => ?_) (fun h => absurd (by dsimp only; omega) h)
    ((conv => whnf); (repeat (first | ((first | refine z1 ?_ | refine z2 ?_ | refine z3 ?_ | refine idxB_at (by decide) rfl ?_ | refine atB_at (by decide) (by decide) ?_ | refine getB_lit _ rfl ?_ | refine z7 ?_); conv => whnf) | exact True.intro)))
    refine dcallB (moveBoundC n (by omega)) ?_
    ((conv => whnf); (repeat (first | ((first | refine z1 ?_ | refine z2 ?_ | refine z3 ?_ | refine idxB_at (by decide) rfl ?_ | refine atB_at (by decide) (by decide) ?_ | refine getB_lit _ rfl ?_ | refine z7 ?_); conv => whnf) | exact True.intro)))
    refine br_dec (fun _ => ?_) (fun h => absurd (by dsimp only; omega) h)
    ((conv => whnf); (repeat (first | ((first | refine z1 ?_ | refine z2 ?_ | refine z3 ?_ | refine idxB_at (by decide) rfl ?_ | refine atB_at (by decide) (by decide) ?_ | refine getB_lit _ rfl ?_ | refine z7 ?_); conv => whnf) | exact True.intro)))
    refine br_dec (fun _ => ?_) (fun h => absurd (by dsimp only; omega) h)
    ((conv => whnf); (repeat (first | ((first | refine z1 ?_ | refine z2 ?_ | refine z3 ?_ | refine idxB_at (by decide) rfl ?_ | refine atB_at (by decide) (by decide) ?_ | refine getB_lit _ rfl ?_ | refine z7 ?_); conv => whnf) | exact True.intro)))
    refine dcallB (compareBoundC n (by omega)) ?_
    ((conv => whnf); (repeat (first | ((first | refine z1 ?_ | refine z2 ?_ | refine z3 ?_ | refine idxB_at (by decide) rfl ?_ | refine atB_at (by decide) (by decide) ?_ | refine getB_lit _ rfl ?_ | refine z7 ?_); conv => whnf) | exact True.intro)))
    refine br_dec (fun _ => ?_) (fun h => absurd (by dsimp only; omega) h)
    ((conv => whnf); (repeat (first | ((first | refine z1 ?_ | refine z2 ?_ | refine z3 ?_ | refine idxB_at (by decide) rfl ?_ | refine atB_at (by decide) (by decide) ?_ | refine getB_lit _ rfl ?_ | refine z7 ?_); conv => whnf) | exact True.intro)))
    refine dcallB (moveBoundC n (by omega)) ?_
    ((conv => whnf); (repeat (first | ((first | refine z1 ?_ | refine z2 ?_ | refine z3 ?_ | refine idxB_at (by decide) rfl ?_ | refine atB_at (by decide) (by decide) ?_ | refine getB_lit _ rfl ?_ | refine z7 ?_); conv => whnf) | exact True.intro)))
    refine br_dec (fun _ => ?_) (fun h => absurd (by omega) h)
    ((conv => whnf); (repeat (first | ((first | refine z1 ?_ | refine z2 ?_ | refine z3 ?_ | refine idxB_at (by decide) rfl ?_ | refine atB_at (by decide) (by decide) ?_ | refine getB_lit _ rfl ?_ | refine z7 ?_); conv => whnf) | exact True.intro)))
    refine dcallB (compareBoundC n (by omega)) ?_
    ((conv => whnf); (repeat (first | ((first | refine z1 ?_ | refine z2 ?_ | refine z3 ?_ | refine idxB_at (by decide) rfl ?_ | refine atB_at (by decide) (by decide) ?_ | refine getB_lit _ rfl ?_ | refine z7 ?_); conv => whnf) | exact True.intro)))
    refine br_dec (fun _ => ?_) (fun h => absurd (by omega) h)
    ((conv => whnf); (repeat (first | ((first | refine z1 ?_ | refine z2 ?_ | refine z3 ?_ | refine idxB_at (by decide) rfl ?_ | refine atB_at (by decide) (by decide) ?_ | refine getB_lit _ rfl ?_ | refine z7 ?_); conv => whnf) | exact True.intro)))
    refine br_dec (fun _ => ?_) (fun h => absurd (by dsimp only; omega) h)
    ((conv => whnf); (repeat (first | ((first | refine z1 ?_ | refine z2 ?_ | refine z3 ?_ | refine idxB_at (by decide) rfl ?_ | refine atB_at (by decide) (by decide) ?_ | refine getB_lit _ rfl ?_ | refine z7 ?_); conv => whnf) | exact True.intro)))
    refine br_dec (fun _ => ?_) (fun h => absurd (by dsimp only; omega) h)
    ((conv => whnf); (repeat (first | ((first | refine z1 ?_ | refine z2 ?_ | refine z3 ?_ | refine idxB_at (by decide) rfl ?_ | refine atB_at (by decide) (by decide) ?_ | refine getB_lit _ rfl ?_ | refine z7 ?_); conv => whnf) | exact True.intro)))
    refine br_dec (fun _ => ?_) (fun h => absurd (by dsimp only; omega) h)
    ((conv => whnf); (repeat (first | ((first | refine z1 ?_ | refine z2 ?_ | refine z3 ?_ | refine idxB_at (by decide) rfl ?_ | refine atB_at (by decide) (by decide) ?_ | refine getB_lit _ rfl ?_ | refine z7 ?_); conv => whnf) | exact True.intro)))
    refine br_dec (fun z => ?_) (fun z => ?_) <;> ((conv => whnf); (repeat (first | ((first | refine z1 ?_ | refine z2 ?_ | refine z3 ?_ | refine idxB_at (by decide) rfl ?_ | refine atB_at (by decide) (by decide) ?_ | refine getB_lit _ rfl ?_ | refine z7 ?_); conv => whnf) | exact True.intro)))
    · exact .same rfl
    · exact .same (by simp; omega)
end Go.Proofs.Ytmihhkcbbdpnaaa.Abs
/- Laws of workloads as contracts: shifted. -/
namespace Go.Proofs.Ytmihhkcbbdpnaaa.Abs
open Go.Proofs
set_option maxRecDepth 10000
set_option linter.unusedSimpArgs false
set_option linter.unusedVariables false

def norm50 (t : Int) : Int := if t.tmod 1125899906842624 < 0 - t.tmod 1125899906842624 then 0 - t.tmod 1125899906842624 else t.tmod 1125899906842624
theorem norm50_ok (t : Int) : 0 ≤ norm50 t ∧ norm50 t < 1125899906842624 := by
  have := tmod_bounds t 1125899906842624 (by omega)
  unfold norm50
  split <;> omega
def norm50s (raw : List WOp) : List WOp := raw.map fun o => ⟨o.pop, norm50 o.time⟩
set_option maxHeartbeats 2000000 in
theorem wShifted (raw : List WOp) (c : Int) (hc : 0 ≤ c ∧ c ≤ 4294967295) : PSpec Try.prog 13 [opsV raw, .c (.int .u32 c)] (V.bool true) := by
  have ok1 : OpsOk (norm50s raw) := fun o ho => by
    obtain ⟨r, _, rfl⟩ := List.mem_map.1 ho
    have := norm50_ok r.time; dsimp only; omega
  have ok2 : OpsOk ((norm50s raw).map (shOp c)) := fun o ho => by
    obtain ⟨r, hr, rfl⟩ := List.mem_map.1 ho
    obtain ⟨r', _, rfl⟩ := List.mem_map.1 hr
    have := norm50_ok r'.time; unfold shOp; dsimp only; omega
  have hlen : (norm50s raw).length = raw.length := by unfold norm50s; simp
  have hn : ∀ (i : Nat) (o : WOp), raw[i]? = some o → (norm50s raw).take (i + 1) = (norm50s raw).take i ++ [⟨o.pop, norm50 o.time⟩] := fun i o ho => by
    rw [List.take_add_one]
    unfold norm50s
    rw [List.getElem?_map, ho]; rfl
  generalize norm50s raw = L at *
  refine pspec tab_ok mix Try.func13 (by kernel_rfl) rfl rfl ?_
  ((conv => whnf); (repeat (first | ((first | refine z1 ?_ | refine z2 ?_ | refine z3 ?_ | refine idxB_at (by decide) rfl ?_ | refine atB_at (by decide) (by decide) ?_ | refine getB_lit _ rfl ?_ | refine z7 ?_); conv => whnf) | trivial)))
  refine callB headC9 ?_
  ((conv => whnf); (repeat (first | ((first | refine z1 ?_ | refine z2 ?_ | refine z3 ?_ | refine idxB_at (by decide) rfl ?_ | refine atB_at (by decide) (by decide) ?_ | refine getB_lit _ rfl ?_ | refine z7 ?_); conv => whnf) | trivial)))
  refine br_dec (fun g => ?_) (fun g => ?_) <;> ((conv => whnf); (repeat (first | ((first | refine z1 ?_ | refine z2 ?_ | refine z3 ?_ | refine idxB_at (by decide) rfl ?_ | refine atB_at (by decide) (by decide) ?_ | refine getB_lit _ rfl ?_ | refine z7 ?_); conv => whnf) | trivial)))
  · exact .same rfl
  have hl : raw.length ≤ 150 := by simp at g; omega
  refine loopB tab_ok mix [0, 1, 5] [] (fun i : Nat => [(6, .ac 1 2 i), (7, .ac 2 2 i), (8, V.int i)]) (fun i => [(1, .dat 2 ((L.take i).map WOp.row)), (2, .dat 2 (((L.take i).map (shOp c)).map WOp.row))]) (fun i => i ≤ raw.length) (fun i => raw.length - i) [] 0 rfl (by omega) (by ((conv => whnf); (repeat (first | ((first | refine z1 ?_ | refine z2 ?_ | refine z3 ?_ | refine idxB_at (by decide) rfl ?_ | refine atB_at (by decide) (by decide) ?_ | refine getB_lit _ rfl ?_ | refine z7 ?_); conv => whnf) | trivial)))) ?_
  rintro i hi
  ((conv => whnf); (repeat (first | ((first | refine z1 ?_ | refine z2 ?_ | refine z3 ?_ | refine idxB_at (by decide) rfl ?_ | refine atB_at (by decide) (by decide) ?_ | refine getB_lit _ rfl ?_ | refine z7 ?_); conv => whnf) | trivial)))
  refine br_dec (fun u => ?_) (fun u => ?_) <;> ((conv => whnf); (repeat (first | ((first | refine z1 ?_ | refine z2 ?_ | refine z3 ?_ | refine idxB_at (by decide) rfl ?_ | refine atB_at (by decide) (by decide) ?_ | refine getB_lit _ rfl ?_ | refine z7 ?_); conv => whnf) | trivial)))
  · have u' : i < raw.length := by simpa using u
    obtain ⟨o, ho⟩ := get_lt u'
    have hni := hn i o ho
    have hb := tmod_bounds o.time 1125899906842624 (by omega)
    have hk := norm50_ok o.time
    refine idxB ho ?_
    ((conv => whnf); (repeat (first | ((first | refine z1 ?_ | refine z2 ?_ | refine z3 ?_ | refine idxB_at (by decide) rfl ?_ | refine atB_at (by decide) (by decide) ?_ | refine getB_lit _ rfl ?_ | refine z7 ?_); conv => whnf) | trivial)))
    refine idxB ho ?_
    ((conv => whnf); (repeat (first | ((first | refine z1 ?_ | refine z2 ?_ | refine z3 ?_ | refine idxB_at (by decide) rfl ?_ | refine atB_at (by decide) (by decide) ?_ | refine getB_lit _ rfl ?_ | refine z7 ?_); conv => whnf) | trivial)))
    refine idxB ho ?_
    ((conv => whnf); (repeat (first | ((first | refine z1 ?_ | refine z2 ?_ | refine z3 ?_ | refine idxB_at (by decide) rfl ?_ | refine atB_at (by decide) (by decide) ?_ | refine getB_lit _ rfl ?_ | refine z7 ?_); conv => whnf) | trivial)))
    refine idxB ho ?_
    ((conv => whnf); (repeat (first | ((first | refine z1 ?_ | refine z2 ?_ | refine z3 ?_ | refine idxB_at (by decide) rfl ?_ | refine atB_at (by decide) (by decide) ?_ | refine getB_lit _ rfl ?_ | refine z7 ?_); conv => whnf) | trivial)))
    refine .mk [(1, 2368), (2, 3264)] (i + 1) (by omega) (by omega) ?_
    rw [hni]
    ((conv => whnf); (repeat (first | ((first | refine z1 ?_ | refine z2 ?_ | refine z3 ?_ | refine idxB_at (by decide) rfl ?_ | refine atB_at (by decide) (by decide) ?_ | refine getB_lit _ rfl ?_ | refine z7 ?_); conv => whnf) | trivial)))
    refine cb (by simp [WOp.row, norm50]) ?_
    ((conv => whnf); (repeat (first | ((first | refine z1 ?_ | refine z2 ?_ | refine z3 ?_ | refine idxB_at (by decide) rfl ?_ | refine atB_at (by decide) (by decide) ?_ | refine getB_lit _ rfl ?_ | refine z7 ?_); conv => whnf) | trivial)))
    refine cb (by simp [WOp.row, norm50, shOp]) ?_
    ((conv => whnf); (repeat (first | ((first | refine z1 ?_ | refine z2 ?_ | refine z3 ?_ | refine idxB_at (by decide) rfl ?_ | refine atB_at (by decide) (by decide) ?_ | refine getB_lit _ rfl ?_ | refine z7 ?_); conv => whnf) | trivial)))
  · have ei : i = raw.length := by simp at u; omega
    subst ei
    rw [List.take_of_length_le (by omega)]
    have w1 := wInv_all ok1 (by omega) _ (Nat.le_refl _)
    have w2 := wInv_all ok2 (by simp; omega) _ (Nat.le_refl _)
    have hln := len_shift c ok1 ok2 (by omega) L.length (Nat.le_refl _)
    have el : (L.map (shOp c)).length = L.length := by simp
    have r1 := runC L ok1 (by omega)
    have r2 := runC (L.map (shOp c)) ok2 (by simp; omega)
    rw [el] at w2 r2
    have gi := (gInv_all L L.length).known
    have hO : (wAt (L.map (shOp c)) L.length).out = (wAt L L.length).out.map (shI c) := by rw [w2.out, w1.out, mAt_shift]
    have hI : (wAt L L.length).ins = (wAt (L.map (shOp c)) L.length).ins := by rw [w1.ins, w2.ins, insN_shift]
    have hP : (wAt L L.length).pops = (wAt (L.map (shOp c)) L.length).pops := by rw [w1.pops, w2.pops, mAt_shift]; simp
    have hT : ∀ x ∈ (wAt L L.length).out, 0 ≤ x.time ∧ x.time ≤ 1152921504606846976 := fun x hx => by
      rw [w1.out] at hx
      obtain ⟨k, _, _, h3⟩ := gi x (List.mem_append_right _ hx)
      exact ok1 _ (List.mem_of_getElem? h3)
    have hz : (wAt L L.length).out.length < 1000000 := by
      have h1 := w1.len
      have h2 := insN_le L L.length
      rw [w1.out]; omega
    generalize wAt L L.length = a at *
    generalize wAt (L.map (shOp c)) L.length = b at *
    clear w1 w2 gi ok1 ok2
    obtain ⟨ins, pops, depth, len, q, out⟩ := a
    obtain ⟨ins', pops', depth', len', q', out'⟩ := b
    dsimp only at hO hI hP hln hT hz
    subst hO hI hP hln
    refine callN r1 ?_
    ((conv => whnf); (repeat (first | ((first | refine z1 ?_ | refine z2 ?_ | refine z3 ?_ | refine idxB_at (by decide) rfl ?_ | refine atB_at (by decide) (by decide) ?_ | refine getB_lit _ rfl ?_ | refine z7 ?_); conv => whnf) | exact True.intro)))
    refine callN r2 ?_
    ((conv => whnf); (repeat (first | ((first | refine z1 ?_ | refine z2 ?_ | refine z3 ?_ | refine idxB_at (by decide) rfl ?_ | refine atB_at (by decide) (by decide) ?_ | refine getB_lit _ rfl ?_ | refine z7 ?_); conv => whnf) | exact True.intro)))
    refine br_ndec (fun h => absurd (by simp) h) (fun _ => ?_)
    ((conv => whnf); (repeat (first | ((first | refine z1 ?_ | refine z2 ?_ | refine z3 ?_ | refine idxB_at (by decide) rfl ?_ | refine atB_at (by decide) (by decide) ?_ | refine getB_lit _ rfl ?_ | refine z7 ?_); conv => whnf) | exact True.intro)))
    refine br_ndec (fun h => absurd rfl h) (fun _ => ?_)
    ((conv => whnf); (repeat (first | ((first | refine z1 ?_ | refine z2 ?_ | refine z3 ?_ | refine idxB_at (by decide) rfl ?_ | refine atB_at (by decide) (by decide) ?_ | refine getB_lit _ rfl ?_ | refine z7 ?_); conv => whnf) | exact True.intro)))
    refine br_ndec (fun h => absurd rfl h) (fun _ => ?_)
    ((conv => whnf); (repeat (first | ((first | refine z1 ?_ | refine z2 ?_ | refine z3 ?_ | refine idxB_at (by decide) rfl ?_ | refine atB_at (by decide) (by decide) ?_ | refine getB_lit _ rfl ?_ | refine z7 ?_); conv => whnf) | exact True.intro)))
    refine br_ndec (fun h => absurd rfl h) (fun _ => ?_)
    ((conv => whnf); (repeat (first | ((first | refine z1 ?_ | refine z2 ?_ | refine z3 ?_ | refine idxB_at (by decide) rfl ?_ | refine atB_at (by decide) (by decide) ?_ | refine getB_lit _ rfl ?_ | refine z7 ?_); conv => whnf) | exact True.intro)))
    refine loopB tab_ok mix [1, 5, 10, 12] [] (fun i : Nat => [(14, V.int i)]) (fun i => []) (fun i => i ≤ out.length) (fun i => out.length - i) [] 0 rfl (by omega) (by ((conv => whnf); (repeat (first | ((first | refine z1 ?_ | refine z2 ?_ | refine z3 ?_ | refine idxB_at (by decide) rfl ?_ | refine atB_at (by decide) (by decide) ?_ | refine getB_lit _ rfl ?_ | refine z7 ?_); conv => whnf) | exact True.intro)))) ?_
    rintro i hi
    ((conv => whnf); (repeat (first | ((first | refine z1 ?_ | refine z2 ?_ | refine z3 ?_ | refine idxB_at (by decide) rfl ?_ | refine atB_at (by decide) (by decide) ?_ | refine getB_lit _ rfl ?_ | refine z7 ?_); conv => whnf) | exact True.intro)))
    refine br_dec (fun u => ?_) (fun u => ?_) <;> ((conv => whnf); (repeat (first | ((first | refine z1 ?_ | refine z2 ?_ | refine z3 ?_ | refine idxB_at (by decide) rfl ?_ | refine atB_at (by decide) (by decide) ?_ | refine getB_lit _ rfl ?_ | refine z7 ?_); conv => whnf) | exact True.intro)))
    · have u' : i < out.length := by simpa using u
      obtain ⟨x, hx⟩ := get_lt u'
      have hx2 : (out.map (shI c))[i]? = some (shI c x) := by rw [List.getElem?_map, hx]; rfl
      have hxt := hT x (List.mem_of_getElem? hx)
      refine idxB hx2 ?_
      ((conv => whnf); (repeat (first | ((first | refine z1 ?_ | refine z2 ?_ | refine z3 ?_ | refine idxB_at (by decide) rfl ?_ | refine atB_at (by decide) (by decide) ?_ | refine getB_lit _ rfl ?_ | refine z7 ?_); conv => whnf) | exact True.intro)))
      refine idxB hx ?_
      ((conv => whnf); (repeat (first | ((first | refine z1 ?_ | refine z2 ?_ | refine z3 ?_ | refine idxB_at (by decide) rfl ?_ | refine atB_at (by decide) (by decide) ?_ | refine getB_lit _ rfl ?_ | refine z7 ?_); conv => whnf) | exact True.intro)))
      refine br_ndec (fun h => absurd rfl h) (fun _ => ?_)
      ((conv => whnf); (repeat (first | ((first | refine z1 ?_ | refine z2 ?_ | refine z3 ?_ | refine idxB_at (by decide) rfl ?_ | refine atB_at (by decide) (by decide) ?_ | refine getB_lit _ rfl ?_ | refine z7 ?_); conv => whnf) | exact True.intro)))
      refine idxB hx2 ?_
      ((conv => whnf); (repeat (first | ((first | refine z1 ?_ | refine z2 ?_ | refine z3 ?_ | refine idxB_at (by decide) rfl ?_ | refine atB_at (by decide) (by decide) ?_ | refine getB_lit _ rfl ?_ | refine z7 ?_); conv => whnf) | exact True.intro)))
      refine idxB hx ?_
      ((conv => whnf); (repeat (first | ((first | refine z1 ?_ | refine z2 ?_ | refine z3 ?_ | refine idxB_at (by decide) rfl ?_ | refine atB_at (by decide) (by decide) ?_ | refine getB_lit _ rfl ?_ | refine z7 ?_); conv => whnf) | exact True.intro)))
      refine br_ndec (fun h => absurd rfl h) (fun _ => ?_)
      ((conv => whnf); (repeat (first | ((first | refine z1 ?_ | refine z2 ?_ | refine z3 ?_ | refine idxB_at (by decide) rfl ?_ | refine atB_at (by decide) (by decide) ?_ | refine getB_lit _ rfl ?_ | refine z7 ?_); conv => whnf) | exact True.intro)))
      refine .mk [] (i + 1) (by omega) (by omega) ?_
      ((conv => whnf); (repeat (first | ((first | refine z1 ?_ | refine z2 ?_ | refine z3 ?_ | refine idxB_at (by decide) rfl ?_ | refine atB_at (by decide) (by decide) ?_ | refine getB_lit _ rfl ?_ | refine z7 ?_); conv => whnf) | exact True.intro)))
    · exact .same rfl
end Go.Proofs.Ytmihhkcbbdpnaaa.Abs
/- From what a row's arguments read to the data of workloads. -/
namespace Go.Proofs.Ytmihhkcbbdpnaaa.Abs
open Go.Proofs
set_option maxRecDepth 10000
set_option linter.unusedSimpArgs false
set_option linter.unusedVariables false
theorem intOfG {m : Nat} {row : List D} (h : ShapeD tab (m + 1) 3 row) : ∃ x : Int, row = [.c (.int .i64 x)] ∧ -9223372036854775808 ≤ x ∧ x ≤ 9223372036854775807 := by
  obtain ⟨x, rfl, hw⟩ : ∃ x : Int, row = [.c (.int .i64 x)] ∧ (Lit.int .i64 x).wf = true := h
  exact ⟨x, rfl, by simpa [Lit.wf, IntKind.min, IntKind.max, IntKind.signed, IntKind.bits] using hw⟩
theorem u16OfG {m : Nat} {row : List D} (h : ShapeD tab (m + 1) 59 row) : ∃ x : Int, row = [.c (.int .u16 x)] ∧ 0 ≤ x ∧ x ≤ 65535 := by
  obtain ⟨x, rfl, hw⟩ : ∃ x : Int, row = [.c (.int .u16 x)] ∧ (Lit.int .u16 x).wf = true := h
  exact ⟨x, rfl, by simpa [Lit.wf, IntKind.min, IntKind.max, IntKind.signed, IntKind.bits] using hw⟩
theorem u32OfG {m : Nat} {row : List D} (h : ShapeD tab (m + 1) 55 row) : ∃ x : Int, row = [.c (.int .u32 x)] ∧ 0 ≤ x ∧ x ≤ 4294967295 := by
  obtain ⟨x, rfl, hw⟩ : ∃ x : Int, row = [.c (.int .u32 x)] ∧ (Lit.int .u32 x).wf = true := h
  exact ⟨x, rfl, by simpa [Lit.wf, IntKind.min, IntKind.max, IntKind.signed, IntKind.bits] using hw⟩
theorem rowsOfG {α : Type} {f : α → List D} {p : List D → Prop} (hp : ∀ r, p r → ∃ x, r = f x) : ∀ (rows : List (List D)), (∀ r ∈ rows, p r) → ∃ l : List α, rows = l.map f
  | [], _ => ⟨[], rfl⟩
  | r :: rows, h => by
    obtain ⟨l, rfl⟩ := rowsOfG hp rows fun r hr => h r (by simp [hr])
    obtain ⟨x, rfl⟩ := hp r (h r (by simp))
    exact ⟨x :: l, rfl⟩
theorem lstOfG {α : Type} {f : α → List D} {m sz : Nat} {t e : TypeId} (hk : (tab t).map Ty.kind = some (.slice e)) (hsz : sizeT tab e = sz) {row : List D} (hp : ∀ r, ShapeD tab m e r → ∃ x, r = f x) (h : ShapeD tab (m + 1) t row) : ∃ l : List α, row = [.lst sz (l.map f)] := by
  unfold ShapeD at h
  rw [hk] at h
  obtain ⟨rows, rfl, _, hr⟩ := h
  obtain ⟨l, rfl⟩ := rowsOfG hp rows hr
  rw [hsz]
  exact ⟨l, rfl⟩
theorem wopOf {m : Nat} {row : List D} (h : ShapeD tab (m + 2) 71 row) : ∃ x : WOp, row = x.row := by
  have h : ShapeL (ShapeD tab (m + 1)) [(0, 4), (1, 3)] row := h
  obtain ⟨_, _, rfl, ⟨a, rfl⟩, _, _, rfl, ⟨b, rfl, _⟩, rfl⟩ := h
  exact ⟨⟨a, b⟩, rfl⟩
theorem wopsOf {m : Nat} {row : List D} (h : ShapeD tab (m + 3) 58 row) : ∃ l : List WOp, row = [.lst 2 (l.map WOp.row)] := lstOfG rfl rfl (fun r hr => wopOf hr) h
theorem specEquivalent (rows : List (List D)) (h : AllR (ShapeD tab 5) [58] rows) : PSpec Try.prog 11 (List.zipWith (argV tab) [58] rows) (V.bool true) := by
  obtain ⟨_, _, rfl, h1, h⟩ := h.cons
  cases h.nil
  obtain ⟨l, rfl⟩ := wopsOf h1
  exact wEquivalent l
theorem specBounds (rows : List (List D)) (h : AllR (ShapeD tab 5) [58] rows) : PSpec Try.prog 10 (List.zipWith (argV tab) [58] rows) (V.bool true) := by
  obtain ⟨_, _, rfl, h1, h⟩ := h.cons
  cases h.nil
  obtain ⟨l, rfl⟩ := wopsOf h1
  exact wBounds l
theorem specWMatches (rows : List (List D)) (h : AllR (ShapeD tab 5) [58, 59] rows) : PSpec Try.prog 9 (List.zipWith (argV tab) [58, 59] rows) (V.bool true) := by
  obtain ⟨_, _, rfl, h1, h⟩ := h.cons
  obtain ⟨_, _, rfl, h2, h⟩ := h.cons
  cases h.nil
  obtain ⟨l, rfl⟩ := wopsOf h1
  obtain ⟨n, rfl, hn⟩ := u16OfG h2
  exact wMatches l n hn
end Go.Proofs.Ytmihhkcbbdpnaaa.Abs
