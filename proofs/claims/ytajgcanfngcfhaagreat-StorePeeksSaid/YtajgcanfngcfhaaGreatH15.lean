/- Scripts of law11: a store whose mutexes are held. -/
import Derived.Test.YtajgcanfngcfhaaGreatH14
namespace Go.Proofs.YtajgcanfngcfhaaGreat.Abs
open Go.Proofs
set_option maxRecDepth 10000
set_option linter.unusedSimpArgs false
set_option linter.unusedVariables false
def sto0 (n : Nat) : Sto := ⟨mem0 (n + 1) 4, List.replicate n slt0, idle0 n, 0, ⟨0, [], [], [], 0, 0⟩⟩
theorem sto0_ok {n : Nat} (h : 1 ≤ n ∧ n ≤ 12) : SB n (sto0 n) [] (fun _ => False) 0 := by
  have hw : ∀ i, (sto0 n).m.word i = 0 := fun i => by
    show ((List.replicate (n + 1) (0 : Int))[i]?).getD 0 = 0
    rw [List.getElem?_replicate]; split <;> rfl
  have hs : ∀ i, (sto0 n).slot i = slt0 := fun i => by
    show ((List.replicate n slt0)[i]?).getD ⟨0, 0, 0, 0⟩ = slt0
    rw [List.getElem?_replicate]; split <;> rfl
  have hst : ∀ i, (sto0 n).st i = 0 := fun i => by unfold Sto.st; rw [hw]; rfl
  have hid : ∀ x, x ∈ (sto0 n).idle ↔ ∃ i : Nat, i < n ∧ x = i := fun x => by
    show x ∈ (((List.range n).map fun i : Nat => (i : Int))).reverse ↔ _
    simp only [List.mem_reverse, List.mem_map, List.mem_range]
    exact ⟨fun ⟨i, a, b⟩ => ⟨i, a, b.symm⟩, fun ⟨i, a, b⟩ => ⟨i, a, b.symm⟩⟩
  refine ⟨⟨by simp [sto0, mem0], by simp [sto0, mem0], by simp [sto0], h, by omega, hw 0, ?_, fun x hx => ?_, fun i hi => by rw [hw]; unfold Sto.gn; rw [hw]; decide, fun i hi => ?_, fun i hi => by rw [hs]; exact ⟨rfl, rfl⟩, fun i hi _ => by rw [hs]; exact ⟨rfl, rfl⟩, fun i hi hz => absurd (hst i) hz, fun i j _ _ hz => absurd (hst i) hz, ⟨Int.le_refl _, Int.le_refl _⟩, ⟨0, Nat.le_refl _, invL_zero⟩, fun x hx => (List.not_mem_nil hx).elim, fun i hi hz => absurd (hst i) hz, fun i hi => False.elim hi⟩, by simp [sto0, mem0], by show (0 : Int) ≤ 0 ∧ (0 : Int) ≤ _; omega⟩
  · show ((((List.range n).map fun i : Nat => (i : Int))).reverse).Nodup
    rw [List.Nodup, List.pairwise_reverse]
    exact (nodup_map_on List.nodup_range fun a _ b _ e => by omega : ((List.range n).map fun i : Nat => (i : Int)).Nodup).imp fun h => h.symm
  · obtain ⟨i, hi, rfl⟩ := (hid x).1 hx; omega
  · rw [hid, hst]; exact ⟨fun _ => rfl, fun _ => ⟨i, hi, rfl⟩⟩
/-- the first i mutexes taken -/
def lockN (m : Mem) : Nat → Mem
  | 0 => m
  | i + 1 => ((lockN m i).lock 0 i).1
theorem lockN_all {m : Mem} (hm : m.mtx.length = 4) (h0 : ∀ i, i < 4 → m.held i = (false, 0)) : ∀ i, i ≤ 4 → (lockN m i).words = m.words ∧ (lockN m i).mtx.length = 4 ∧ (lockN m i).log.length = m.log.length + i ∧ (lockN m i).viol = m.viol ∧ ∀ j, j < 4 → (lockN m i).held j = if j < i then (true, 0) else (false, 0)
  | 0, _ => ⟨rfl, hm, rfl, rfl, fun j hj => by rw [if_neg (by omega)]; exact h0 j hj⟩
  | i + 1, hi => by
    obtain ⟨a1, a2, a3, a4, a5⟩ := lockN_all hm h0 i (by omega)
    have hf : ((lockN m i).held i).1 = false := by rw [a5 i (by omega), if_neg (by omega)]
    have e : lockN m (i + 1) = { (lockN m i) with mtx := (lockN m i).mtx.set i (true, 0), log := (lockN m i).log ++ [⟨0, 5, i, 0, 1, true⟩] } := by
      show ((lockN m i).lock 0 i).1 = _
      unfold Mem.lock
      rw [hf, if_neg (by simp)]
    rw [e]
    refine ⟨a1, by simp [a2], by simp [a3]; omega, a4, fun j hj => ?_⟩
    unfold Mem.held at a5 ⊢
    dsimp only
    rw [List.getElem?_set]
    by_cases c : i = j
    · subst c; rw [if_pos rfl, if_pos (by omega), if_pos (by omega)]; rfl
    · rw [if_neg c, a5 j hj]
      by_cases d : j < i
      · rw [if_pos d, if_pos (by omega)]
      · rw [if_neg d, if_neg (by omega)]
theorem sto0_free (n : Nat) : ∀ i, i < 4 → (sto0 n).m.held i = (false, 0) := fun i hi => by
  show ((List.replicate 4 (false, (0 : Int)))[i]?).getD (false, 0) = _
  rw [List.getElem?_replicate]; split <;> rfl
def heldN (n i : Nat) : Sto := { sto0 n with m := lockN (sto0 n).m i }
theorem heldN_ok {n : Nat} (h : 1 ≤ n ∧ n ≤ 12) {i : Nat} (hi : i ≤ 4) : SB n (heldN n i) [] (fun _ => False) 0 ∧ (∀ j, j < 4 → (heldN n i).m.held j = if j < i then (true, 0) else (false, 0)) ∧ (heldN n i).m.viol = 0 := by
  have hb := sto0_ok h
  obtain ⟨a1, a2, a3, a4, a5⟩ := lockN_all hb.nm (sto0_free n) i hi
  have e0 : (sto0 n).m.log.length = 0 := rfl
  have e1 : (sto0 n).m.viol = 0 := rfl
  exact ⟨⟨hb.toSOk.same a1 a2, by show (lockN (sto0 n).m i).log.length ≤ _; omega, by show 0 ≤ (lockN (sto0 n).m i).viol ∧ (lockN (sto0 n).m i).viol ≤ _; omega⟩, a5, by show (lockN (sto0 n).m i).viol = 0; rw [a4, e1]⟩
theorem heldC (n : Nat) (h : 1 ≤ n ∧ n ≤ 12) : LSpec Tryz.prog 18 [V.int n] [] 0 (.p 0 10 0 0) (stoB (heldN n 4) 2) 5 := by
  refine lspec tab_ok mix Tryz.func18 (by kernel_rfl) (by rfl) (by rfl) (by rfl) (by rfl) ?_
  ((conv => whnf); (repeat (first | ((first | refine z1 ?_ | refine z2 ?_ | refine z3 ?_ | refine idxB_at (by decide) rfl ?_ | refine atB_at (by decide) (by decide) ?_ | refine getB_lit _ rfl ?_ | refine z7 ?_); conv => whnf) | exact True.intro)))
  refine callL (newStoC n ⟨h.1, by omega⟩) [] [] rfl ?_
  ((conv => whnf); (repeat (first | ((first | refine z1 ?_ | refine z2 ?_ | refine z3 ?_ | refine idxB_at (by decide) rfl ?_ | refine atB_at (by decide) (by decide) ?_ | refine getB_lit _ rfl ?_ | refine z7 ?_); conv => whnf) | exact True.intro)))
  refine callL (memoryC (sto0 n)) [some 192, some 193, some 194, some 195, some 196] [] rfl ?_
  ((conv => whnf); (repeat (first | ((first | refine z1 ?_ | refine z2 ?_ | refine z3 ?_ | refine idxB_at (by decide) rfl ?_ | refine atB_at (by decide) (by decide) ?_ | refine getB_lit _ rfl ?_ | refine z7 ?_); conv => whnf) | exact True.intro)))
  have h0 : heldN n 0 = sto0 n := rfl
  refine loopB tab_ok mix [3] [] (fun i : Nat => [(3, .p 0 10 0 0), (4, V.int i)]) (fun i => stoB (heldN n i) 2) (fun i => i ≤ 4) (fun i => 4 - i) [(0, 192), (1, 193), (2, 194), (3, 195), (4, 196)] 0 rfl (by omega) (by rw [h0]; ((conv => whnf); (repeat (first | ((first | refine z1 ?_ | refine z2 ?_ | refine z3 ?_ | refine idxB_at (by decide) rfl ?_ | refine atB_at (by decide) (by decide) ?_ | refine getB_lit _ rfl ?_ | refine z7 ?_); conv => whnf) | exact True.intro)))) ?_
  rintro i hi
  obtain ⟨b1, b2, b3⟩ := heldN_ok h hi
  ((conv => whnf); (repeat (first | ((first | refine z1 ?_ | refine z2 ?_ | refine z3 ?_ | refine idxB_at (by decide) rfl ?_ | refine atB_at (by decide) (by decide) ?_ | refine getB_lit _ rfl ?_ | refine z7 ?_); conv => whnf) | exact True.intro)))
  refine br_dec (fun u => ?_) (fun u => ?_) <;> ((conv => whnf); (repeat (first | ((first | refine z1 ?_ | refine z2 ?_ | refine z3 ?_ | refine idxB_at (by decide) rfl ?_ | refine atB_at (by decide) (by decide) ?_ | refine getB_lit _ rfl ?_ | refine z7 ?_); conv => whnf) | exact True.intro)))
  · have u' : i < 4 := by omega
    refine callL (memoryC (heldN n i)) [some 0, some 1, some 2, some 3, some 4] [] rfl ?_
    ((conv => whnf); (repeat (first | ((first | refine z1 ?_ | refine z2 ?_ | refine z3 ?_ | refine idxB_at (by decide) rfl ?_ | refine atB_at (by decide) (by decide) ?_ | refine getB_lit _ rfl ?_ | refine z7 ?_); conv => whnf) | exact True.intro)))
    have hl := lockC (heldN n i).m 0 i (by rw [b1.nm]; exact u') b1.fits.mem
    have hlt : ((heldN n i).m.lock 0 i).2 = true := by
      have e : (heldN n i).m.held i = (false, 0) := by rw [b2 i u', if_neg (by omega)]
      unfold Mem.lock
      rw [e]; rfl
    have hnx : { heldN n i with m := ((heldN n i).m.lock 0 i).1 } = heldN n (i + 1) := rfl
    rw [hlt] at hl
    refine callL hl [some 1, some 2, some 3, some 4] [] rfl ?_
    ((conv => whnf); (repeat (first | ((first | refine z1 ?_ | refine z2 ?_ | refine z3 ?_ | refine idxB_at (by decide) rfl ?_ | refine atB_at (by decide) (by decide) ?_ | refine getB_lit _ rfl ?_ | refine z7 ?_); conv => whnf) | exact True.intro)))
    refine .mk [(2, 1152)] (i + 1) (by omega) (by omega) ?_
    rw [← hnx]
    ((conv => whnf); (repeat (first | ((first | refine z1 ?_ | refine z2 ?_ | refine z3 ?_ | refine idxB_at (by decide) rfl ?_ | refine atB_at (by decide) (by decide) ?_ | refine getB_lit _ rfl ?_ | refine z7 ?_); conv => whnf) | exact True.intro)))
  · obtain rfl : i = 4 := by omega
    refine .mk [] ?_
    ((conv => whnf); (repeat (first | ((first | refine z1 ?_ | refine z2 ?_ | refine z3 ?_ | refine idxB_at (by decide) rfl ?_ | refine atB_at (by decide) (by decide) ?_ | refine getB_lit _ rfl ?_ | refine z7 ?_); conv => whnf) | exact True.intro)))
end Go.Proofs.YtajgcanfngcfhaaGreat.Abs
