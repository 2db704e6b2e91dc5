/- Handles and words: what their packing reckons, in the program and in the reference. -/
import Derived.Test.YtajgcanfngcfhaaGreatK2
import Derived.Test.YtajgcanfngcfhaaGreatC16
import Derived.IntWalk
namespace Go.Proofs.YtajgcanfngcfhaaGreat.Abs
open Go.Proofs
set_option maxRecDepth 10000
set_option linter.unusedSimpArgs false
set_option linter.unusedVariables false
theorem or_add (k : Nat) (g s : Int) (hg0 : 0 ≤ g) (hs0 : 0 ≤ s) (hs : s < 2 ^ k) (hk : g * 2 ^ k < 2 ^ 60) (hs2 : s < 2 ^ 60) :
    bits BinOp.or IntKind.i64 (g * 2 ^ k) s = g * 2 ^ k + s := by
  obtain ⟨g, rfl⟩ := Int.eq_ofNat_of_zero_le hg0
  obtain ⟨s, rfl⟩ := Int.eq_ofNat_of_zero_le hs0
  have e : ((g : Int) * 2 ^ k) = ((g * 2 ^ k : Nat) : Int) := by simp
  rw [e] at hk ⊢
  have hs' : s < 2 ^ k := by exact_mod_cast hs
  have hk' : g * 2 ^ k < 2 ^ 60 := by exact_mod_cast hk
  have hs3 : s < 2 ^ 60 := by exact_mod_cast hs2
  have ho : (g * 2 ^ k) ||| s = g * 2 ^ k + s := by
    rw [Nat.mul_comm, Nat.two_pow_add_eq_or_of_lt hs']
  have hb : (BitVec.ofInt 64 ((g * 2 ^ k : Nat) : Int) ||| BitVec.ofInt 64 (s : Int)).toNat = g * 2 ^ k + s := by
    rw [BitVec.toNat_or, BitVec.ofInt_natCast, BitVec.ofInt_natCast, BitVec.toNat_ofNat, BitVec.toNat_ofNat, Nat.mod_eq_of_lt (by omega), Nat.mod_eq_of_lt (by omega), ho]
  show IntKind.i64.wrap ((BitVec.ofInt 64 ((g * 2 ^ k : Nat) : Int) ||| BitVec.ofInt 64 (s : Int)).toNat : Int) = _
  rw [hb, IntWalk.i64_in _ (by omega)]
  simp
theorem and_mod (k : Nat) (hk : k < 62) (p : Int) (hp0 : 0 ≤ p) (hp : p < 2 ^ 62) : bits BinOp.and IntKind.i64 p (2 ^ k - 1) = p % 2 ^ k := by
  obtain ⟨p, rfl⟩ := Int.eq_ofNat_of_zero_le hp0
  have h1 : 1 ≤ 2 ^ k := Nat.one_le_two_pow
  have h2 : 2 ^ k < 2 ^ 62 := Nat.pow_lt_pow_right (by omega) hk
  have e : ((2 : Int) ^ k - 1) = ((2 ^ k - 1 : Nat) : Int) := by rw [Int.natCast_sub h1]; simp
  rw [e]
  have hp' : p < 2 ^ 62 := by exact_mod_cast hp
  have hlt : p % 2 ^ k < 2 ^ 62 := Nat.lt_of_le_of_lt (Nat.mod_le _ _) hp'
  have hb : (BitVec.ofInt 64 (p : Int) &&& BitVec.ofInt 64 ((2 ^ k - 1 : Nat) : Int)).toNat = p % 2 ^ k := by
    rw [BitVec.toNat_and, BitVec.ofInt_natCast, BitVec.ofInt_natCast, BitVec.toNat_ofNat, BitVec.toNat_ofNat, Nat.mod_eq_of_lt (by omega), Nat.mod_eq_of_lt (by omega), Nat.and_two_pow_sub_one_eq_mod]
  show IntKind.i64.wrap ((BitVec.ofInt 64 (p : Int) &&& BitVec.ofInt 64 ((2 ^ k - 1 : Nat) : Int)).toNat : Int) = _
  rw [hb, IntWalk.i64_in _ (by omega)]
  simp
theorem or_four (g s : Int) (h : (0 ≤ g ∧ g ≤ 2199023255552) ∧ 0 ≤ s ∧ s < 4) : bits BinOp.or IntKind.i64 (g * 4) s = 4 * g + s := by
  have := or_add 2 g s h.1.1 h.2.1 (by omega) (by omega) (by omega)
  simp only [show (2 : Int) ^ 2 = 4 from rfl] at this
  rw [this]; omega
theorem or_64 (g s : Int) (h : (0 ≤ g ∧ g ≤ 2199023255552) ∧ 0 ≤ s ∧ s < 64) : bits BinOp.or IntKind.i64 (g * 64) s = 64 * g + s := by
  have := or_add 6 g s h.1.1 h.2.1 (by omega) (by omega) (by omega)
  simp only [show (2 : Int) ^ 6 = 64 from rfl] at this
  rw [this]; omega
theorem pow2 : (2 : Int) ^ min (Int.toNat 2) IntKind.i64.bits = 4 := rfl
theorem pow6 : (2 : Int) ^ min (Int.toNat 6) IntKind.i64.bits = 64 := rfl
theorem wordC (g s : Int) (h : (0 ≤ g ∧ g ≤ 2199023255552) ∧ 0 ≤ s ∧ s < 4) : PSpec Tryz.prog 84 [V.int g, V.int s] (V.int (4 * g + s)) := by
  refine pspec tab_ok mix Tryz.func84 (by kernel_rfl) rfl rfl ?_
  ((conv => whnf); (repeat (first | ((first | refine z1 ?_ | refine z2 ?_ | refine z3 ?_ | refine idxB_at (by decide) rfl ?_ | refine atB_at (by decide) (by decide) ?_ | refine getB_lit _ rfl ?_ | refine z7 ?_); conv => whnf) | exact True.intro)))
  rw [pow2]
  refine wrB (by omega) ?_
  ((conv => whnf); (repeat (first | ((first | refine z1 ?_ | refine z2 ?_ | refine z3 ?_ | refine idxB_at (by decide) rfl ?_ | refine atB_at (by decide) (by decide) ?_ | refine getB_lit _ rfl ?_ | refine z7 ?_); conv => whnf) | exact True.intro)))
  exact .same (by rw [← or_four g s h])
theorem makeC (s g : Int) (h : (0 ≤ g ∧ g ≤ 2199023255552) ∧ 0 ≤ s ∧ s < 64) : PSpec Tryz.prog 85 [V.int s, V.int g] (V.int (64 * g + s)) := by
  refine pspec tab_ok mix Tryz.func85 (by kernel_rfl) rfl rfl ?_
  ((conv => whnf); (repeat (first | ((first | refine z1 ?_ | refine z2 ?_ | refine z3 ?_ | refine idxB_at (by decide) rfl ?_ | refine atB_at (by decide) (by decide) ?_ | refine getB_lit _ rfl ?_ | refine z7 ?_); conv => whnf) | exact True.intro)))
  rw [pow6]
  refine wrB (by omega) ?_
  ((conv => whnf); (repeat (first | ((first | refine z1 ?_ | refine z2 ?_ | refine z3 ?_ | refine idxB_at (by decide) rfl ?_ | refine atB_at (by decide) (by decide) ?_ | refine getB_lit _ rfl ?_ | refine z7 ?_); conv => whnf) | exact True.intro)))
  exact .same (by rw [← or_64 g s h])
theorem fdiv4 (p : Int) : p.fdiv (2 ^ min (Int.toNat 2) IntKind.i64.bits) = p / 4 := by rw [pow2]; exact Int.fdiv_eq_ediv_of_nonneg _ (by omega)
theorem high2C (p : Int) : PSpec Tryz.prog 138 [V.int p, V.int 2] (V.int (p / 4)) := by
  refine pspec tab_ok mix Tryz.func138 (by kernel_rfl) rfl rfl ?_
  ((conv => whnf); (repeat (first | ((first | refine z1 ?_ | refine z2 ?_ | refine z3 ?_ | refine idxB_at (by decide) rfl ?_ | refine atB_at (by decide) (by decide) ?_ | refine getB_lit _ rfl ?_ | refine z7 ?_); conv => whnf) | exact True.intro)))
  exact .same (by rw [← fdiv4])
theorem and_four (p : Int) (h : 0 ≤ p ∧ p ≤ 2305843009213693952) : bits BinOp.and IntKind.i64 p 3 = p % 4 := by
  have := and_mod 2 (by omega) p h.1 (by omega)
  simpa using this
theorem low2C (p : Int) (h : 0 ≤ p ∧ p ≤ 2305843009213693952) : PSpec Tryz.prog 139 [V.int p, V.int 2] (V.int (p % 4)) := by
  refine pspec tab_ok mix Tryz.func139 (by kernel_rfl) rfl rfl ?_
  ((conv => whnf); (repeat (first | ((first | refine z1 ?_ | refine z2 ?_ | refine z3 ?_ | refine idxB_at (by decide) rfl ?_ | refine atB_at (by decide) (by decide) ?_ | refine getB_lit _ rfl ?_ | refine z7 ?_); conv => whnf) | exact True.intro)))
  rw [pow2]
  refine wrB (by omega) ?_
  ((conv => whnf); (repeat (first | ((first | refine z1 ?_ | refine z2 ?_ | refine z3 ?_ | refine idxB_at (by decide) rfl ?_ | refine atB_at (by decide) (by decide) ?_ | refine getB_lit _ rfl ?_ | refine z7 ?_); conv => whnf) | exact True.intro)))
  exact .same (by rw [← and_four p h]; rfl)
theorem genC (p : Int) : PSpec Tryz.prog 87 [V.int p] (V.int (p / 4)) := by
  refine pspec tab_ok mix Tryz.func87 (by kernel_rfl) rfl rfl ?_
  ((conv => whnf); (repeat (first | ((first | refine z1 ?_ | refine z2 ?_ | refine z3 ?_ | refine idxB_at (by decide) rfl ?_ | refine atB_at (by decide) (by decide) ?_ | refine getB_lit _ rfl ?_ | refine z7 ?_); conv => whnf) | exact True.intro)))
  refine callB (high2C p) ?_
  ((conv => whnf); (repeat (first | ((first | refine z1 ?_ | refine z2 ?_ | refine z3 ?_ | refine idxB_at (by decide) rfl ?_ | refine atB_at (by decide) (by decide) ?_ | refine getB_lit _ rfl ?_ | refine z7 ?_); conv => whnf) | exact True.intro)))
  exact .same rfl
theorem stateC (p : Int) (h : 0 ≤ p ∧ p ≤ 2305843009213693952) : PSpec Tryz.prog 88 [V.int p] (V.int (p % 4)) := by
  refine pspec tab_ok mix Tryz.func88 (by kernel_rfl) rfl rfl ?_
  ((conv => whnf); (repeat (first | ((first | refine z1 ?_ | refine z2 ?_ | refine z3 ?_ | refine idxB_at (by decide) rfl ?_ | refine atB_at (by decide) (by decide) ?_ | refine getB_lit _ rfl ?_ | refine z7 ?_); conv => whnf) | exact True.intro)))
  refine callB (low2C p h) ?_
  ((conv => whnf); (repeat (first | ((first | refine z1 ?_ | refine z2 ?_ | refine z3 ?_ | refine idxB_at (by decide) rfl ?_ | refine atB_at (by decide) (by decide) ?_ | refine getB_lit _ rfl ?_ | refine z7 ?_); conv => whnf) | exact True.intro)))
  exact .same rfl
def hOk (h : Int) : Prop := 0 ≤ h ∧ h ≤ 70368744177727
instance (h : Int) : Decidable (hOk h) := by unfold hOk; infer_instance
def slotH (h : Int) : Int := if hOk h then h % 64 else -1
/-! ### the reference -/
theorem rWordC (g s : Int) (h : (0 ≤ g ∧ g ≤ 2199023255552) ∧ 0 ≤ s ∧ s < 4) : PSpec Tryz.prog 35 [V.int g, V.int s] (V.int (4 * g + s)) := by
  refine pspec tab_ok mix Tryz.func35 (by kernel_rfl) rfl rfl ?_
  ((conv => whnf); (repeat (first | ((first | refine z1 ?_ | refine z2 ?_ | refine z3 ?_ | refine idxB_at (by decide) rfl ?_ | refine atB_at (by decide) (by decide) ?_ | refine getB_lit _ rfl ?_ | refine z7 ?_); conv => whnf) | exact True.intro)))
  exact .same rfl
theorem rGenC (p : Int) (h : 0 ≤ p ∧ p ≤ 9223372036854775807) : PSpec Tryz.prog 52 [V.int p] (V.int (p / 4)) := by
  refine pspec tab_ok mix Tryz.func52 (by kernel_rfl) rfl rfl ?_
  ((conv => whnf); (repeat (first | ((first | refine z1 ?_ | refine z2 ?_ | refine z3 ?_ | refine idxB_at (by decide) rfl ?_ | refine atB_at (by decide) (by decide) ?_ | refine getB_lit _ rfl ?_ | refine z7 ?_); conv => whnf) | exact True.intro)))
  rw [Int.tdiv_eq_ediv_of_nonneg h.1]
  refine wrB (by omega) ?_
  ((conv => whnf); (repeat (first | ((first | refine z1 ?_ | refine z2 ?_ | refine z3 ?_ | refine idxB_at (by decide) rfl ?_ | refine atB_at (by decide) (by decide) ?_ | refine getB_lit _ rfl ?_ | refine z7 ?_); conv => whnf) | exact True.intro)))
  exact .same rfl
theorem rValidHC (h : Int) : PSpec Tryz.prog 96 [V.int h] (V.bool (decide (hOk h))) := by
  refine pspec tab_ok mix Tryz.func96 (by kernel_rfl) rfl rfl ?_
  ((conv => whnf); (repeat (first | ((first | refine z1 ?_ | refine z2 ?_ | refine z3 ?_ | refine idxB_at (by decide) rfl ?_ | refine atB_at (by decide) (by decide) ?_ | refine getB_lit _ rfl ?_ | refine z7 ?_); conv => whnf) | exact True.intro)))
  refine br_dec (fun g => ?_) (fun g => ?_) <;> ((conv => whnf); (repeat (first | ((first | refine z1 ?_ | refine z2 ?_ | refine z3 ?_ | refine idxB_at (by decide) rfl ?_ | refine atB_at (by decide) (by decide) ?_ | refine getB_lit _ rfl ?_ | refine z7 ?_); conv => whnf) | exact True.intro)))
  · exact .same (congrArg (fun z => V.c (.bool z)) (decide_eq_decide.2 ⟨fun q => ⟨g, q⟩, fun q => q.2⟩))
  · exact .same (congrArg (fun z => V.c (.bool z)) (decide_eq_false fun q => g q.1).symm)
theorem rSlotC (h : Int) : PSpec Tryz.prog 33 [V.int h] (V.int (slotH h)) := by
  refine pspec tab_ok mix Tryz.func33 (by kernel_rfl) rfl rfl ?_
  ((conv => whnf); (repeat (first | ((first | refine z1 ?_ | refine z2 ?_ | refine z3 ?_ | refine idxB_at (by decide) rfl ?_ | refine atB_at (by decide) (by decide) ?_ | refine getB_lit _ rfl ?_ | refine z7 ?_); conv => whnf) | exact True.intro)))
  refine callB (rValidHC h) ?_
  unfold slotH
  by_cases g : hOk h
  · rw [if_pos g, decide_eq_true g]
    ((conv => whnf); (repeat (first | ((first | refine z1 ?_ | refine z2 ?_ | refine z3 ?_ | refine idxB_at (by decide) rfl ?_ | refine atB_at (by decide) (by decide) ?_ | refine getB_lit _ rfl ?_ | refine z7 ?_); conv => whnf) | exact True.intro)))
    exact .same (by rw [Int.tmod_eq_emod_of_nonneg g.1])
  · rw [if_neg g, decide_eq_false g]
    ((conv => whnf); (repeat (first | ((first | refine z1 ?_ | refine z2 ?_ | refine z3 ?_ | refine idxB_at (by decide) rfl ?_ | refine atB_at (by decide) (by decide) ?_ | refine getB_lit _ rfl ?_ | refine z7 ?_); conv => whnf) | exact True.intro)))
    exact .same rfl
end Go.Proofs.YtajgcanfngcfhaaGreat.Abs
