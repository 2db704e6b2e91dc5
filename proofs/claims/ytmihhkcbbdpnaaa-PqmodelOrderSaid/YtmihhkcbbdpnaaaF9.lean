/- The reference of the model: its calls. -/
import Derived.Test.YtmihhkcbbdpnaaaF8
namespace Go.Proofs.Ytmihhkcbbdpnaaa.Abs
open Go.Proofs
set_option maxRecDepth 10000
set_option linter.unusedSimpArgs false
set_option linter.unusedVariables false

/-- what is in order before an insertion -/
structure InsOk (m : Mod) (c : Cal) (h : Int) : Prop where
  mono : MonoE m.ents ⟨c.time, m.next, h, false⟩
  time : ∀ x ∈ m.ents, (cmpEnt x ⟨c.time, m.next, h, false⟩ < 0 ↔ x.time ≤ c.time)
  full : (m.ents.length : Int) ≤ m.cap
theorem insRow (l : List Ent) (e : Ent) (i : Nat) (hi : i ≤ l.length) (hp : posE l e = i) : (((l.map Ent.row).drop 0).take (i - 0) ++ [e.row]) ++ ((l.map Ent.row).drop i).take (l.length - i) = (insL l e).map Ent.row := by
  have h2 : ((l.map Ent.row).drop i).take (l.length - i) = (l.map Ent.row).drop i := List.take_of_length_le (by simp)
  rw [h2, insL, hp]
  simp [List.map_take, List.map_drop]
theorem refInsertC (m : Mod) (c : Cal) (h : Int) (hf : m.Fits) (ho : InsOk m c h) : PSpec Try.prog 75 [m.v, c.v, V.int h] (.tup [(insertM m c h).1.v, (insertM m c h).2.v]) := by
  obtain ⟨f1, f2, f3⟩ := hf
  obtain ⟨hm, ht, hfull⟩ := ho
  refine pspec tab_ok mix Try.func75 (by kernel_rfl) rfl rfl ?_
  ((conv => whnf); (repeat (first | ((first | refine z1 ?_ | refine z2 ?_ | refine z3 ?_ | refine idxB_at (by decide) rfl ?_ | refine atB_at (by decide) (by decide) ?_ | refine getB_lit _ rfl ?_ | refine z7 ?_); conv => whnf) | trivial)))
  refine br_dec (fun g1 => ?_) (fun g1 => ?_) <;> ((conv => whnf); (repeat (first | ((first | refine z1 ?_ | refine z2 ?_ | refine z3 ?_ | refine idxB_at (by decide) rfl ?_ | refine atB_at (by decide) (by decide) ?_ | refine getB_lit _ rfl ?_ | refine z7 ?_); conv => whnf) | trivial)))
  · refine frzK ?_
    rw [insertM, if_pos (.inl g1)]
    ((conv => whnf); (repeat (first | ((first | refine z1 ?_ | refine z2 ?_ | refine z3 ?_ | refine idxB_at (by decide) rfl ?_ | refine atB_at (by decide) (by decide) ?_ | refine getB_lit _ rfl ?_ | refine z7 ?_); conv => whnf) | trivial)))
  refine br_dec (fun g2 => ?_) (fun g2 => ?_) <;> ((conv => whnf); (repeat (first | ((first | refine z1 ?_ | refine z2 ?_ | refine z3 ?_ | refine idxB_at (by decide) rfl ?_ | refine atB_at (by decide) (by decide) ?_ | refine getB_lit _ rfl ?_ | refine z7 ?_); conv => whnf) | trivial)))
  · refine frzK ?_
    rw [insertM, if_pos (.inr g2)]
    ((conv => whnf); (repeat (first | ((first | refine z1 ?_ | refine z2 ?_ | refine z3 ?_ | refine idxB_at (by decide) rfl ?_ | refine atB_at (by decide) (by decide) ?_ | refine getB_lit _ rfl ?_ | refine z7 ?_); conv => whnf) | trivial)))
  have g3 : ¬ (c.time < 0 ∨ 1152921504606846976 < c.time) := by omega
  refine br_dec (fun g4 => ?_) (fun g4 => ?_) <;> ((conv => whnf); (repeat (first | ((first | refine z1 ?_ | refine z2 ?_ | refine z3 ?_ | refine idxB_at (by decide) rfl ?_ | refine atB_at (by decide) (by decide) ?_ | refine getB_lit _ rfl ?_ | refine z7 ?_); conv => whnf) | trivial)))
  · refine frzK ?_
    rw [insertM, if_neg g3, if_pos (by simp at g4; omega)]
    ((conv => whnf); (repeat (first | ((first | refine z1 ?_ | refine z2 ?_ | refine z3 ?_ | refine idxB_at (by decide) rfl ?_ | refine atB_at (by decide) (by decide) ?_ | refine getB_lit _ rfl ?_ | refine z7 ?_); conv => whnf) | trivial)))
  have g4 : ¬ (m.ents.length : Int) = m.cap := by simp at g4; omega
  refine callB (refHandleValidC h) ?_
  ((conv => whnf); (repeat (first | ((first | refine z1 ?_ | refine z2 ?_ | refine z3 ?_ | refine idxB_at (by decide) rfl ?_ | refine atB_at (by decide) (by decide) ?_ | refine getB_lit _ rfl ?_ | refine z7 ?_); conv => whnf) | trivial)))
  refine br_dec (fun g5 => ?_) (fun g5 => ?_) <;> ((conv => whnf); (repeat (first | ((first | refine z1 ?_ | refine z2 ?_ | refine z3 ?_ | refine idxB_at (by decide) rfl ?_ | refine atB_at (by decide) (by decide) ?_ | refine getB_lit _ rfl ?_ | refine z7 ?_); conv => whnf) | trivial)))
  · refine callB (hasC m.iss h (by omega)) ?_
    ((conv => whnf); (repeat (first | ((first | refine z1 ?_ | refine z2 ?_ | refine z3 ?_ | refine idxB_at (by decide) rfl ?_ | refine atB_at (by decide) (by decide) ?_ | refine getB_lit _ rfl ?_ | refine z7 ?_); conv => whnf) | trivial)))
    refine br_dec (fun g6 => ?_) (fun g6 => ?_) <;> ((conv => whnf); (repeat (first | ((first | refine z1 ?_ | refine z2 ?_ | refine z3 ?_ | refine idxB_at (by decide) rfl ?_ | refine atB_at (by decide) (by decide) ?_ | refine getB_lit _ rfl ?_ | refine z7 ?_); conv => whnf) | trivial)))
    · refine frzK ?_
      rw [insertM, if_neg g3, if_neg g4, if_pos (.inr g6)]
      ((conv => whnf); (repeat (first | ((first | refine z1 ?_ | refine z2 ?_ | refine z3 ?_ | refine idxB_at (by decide) rfl ?_ | refine atB_at (by decide) (by decide) ?_ | refine getB_lit _ rfl ?_ | refine z7 ?_); conv => whnf) | trivial)))
    have g7 : ¬ (¬ handOk h ∨ h ∈ m.iss) := by simp [g5, g6]
    rw [insertM, if_neg g3, if_neg g4, if_neg g7]
    refine loopB tab_ok mix [2, 3, 4, 6, 7] [0, 64, 128, 192] (fun i : Nat => [(8, V.int i)]) (fun i => []) (fun i => i ≤ m.ents.length ∧ ∀ x, m.ents[i]? = some x → ¬ cmpEnt x ⟨c.time, m.next, h, false⟩ < 0) (fun i => i) [] m.ents.length rfl ⟨by omega, by simp⟩ (by ((conv => whnf); (repeat (first | ((first | refine z1 ?_ | refine z2 ?_ | refine z3 ?_ | refine idxB_at (by decide) rfl ?_ | refine atB_at (by decide) (by decide) ?_ | refine getB_lit _ rfl ?_ | refine z7 ?_); conv => whnf) | trivial)))) ?_
    rintro i ⟨h1, h2⟩
    ((conv => whnf); (repeat (first | ((first | refine z1 ?_ | refine z2 ?_ | refine z3 ?_ | refine idxB_at (by decide) rfl ?_ | refine atB_at (by decide) (by decide) ?_ | refine getB_lit _ rfl ?_ | refine z7 ?_); conv => whnf) | trivial)))
    have fin : (∀ x, m.ents[i - 1]? = some x → 0 < i → cmpEnt x ⟨c.time, m.next, h, false⟩ < 0) → posE m.ents ⟨c.time, m.next, h, false⟩ = i := by
      intro hx
      refine posE_of h1 (fun j y hj hy => ?_) h2
      obtain ⟨x, hx'⟩ := get_lt (show i - 1 < m.ents.length by omega)
      exact hm j (i - 1) y x (by omega) hy hx' (hx x hx' (by omega))
    refine br_dec (fun g => ?_) (fun g => ?_) <;> ((conv => whnf); (repeat (first | ((first | refine z1 ?_ | refine z2 ?_ | refine z3 ?_ | refine idxB_at (by decide) rfl ?_ | refine atB_at (by decide) (by decide) ?_ | refine getB_lit _ rfl ?_ | refine z7 ?_); conv => whnf) | trivial)))
    · obtain ⟨j, rfl⟩ : ∃ j, i = j + 1 := ⟨i - 1, by omega⟩
      obtain ⟨x, hx⟩ := get_lt (show j < m.ents.length by omega)
      have hxm := ht x (List.mem_of_getElem? hx)
      refine idxB_eq j x (by omega) hx ?_
      ((conv => whnf); (repeat (first | ((first | refine z1 ?_ | refine z2 ?_ | refine z3 ?_ | refine idxB_at (by decide) rfl ?_ | refine atB_at (by decide) (by decide) ?_ | refine getB_lit _ rfl ?_ | refine z7 ?_); conv => whnf) | trivial)))
      refine br_dec (fun k => ?_) (fun k => ?_) <;> ((conv => whnf); (repeat (first | ((first | refine z1 ?_ | refine z2 ?_ | refine z3 ?_ | refine idxB_at (by decide) rfl ?_ | refine atB_at (by decide) (by decide) ?_ | refine getB_lit _ rfl ?_ | refine z7 ?_); conv => whnf) | trivial)))
      · refine .mk [] j ⟨by omega, fun y hy => ?_⟩ (by omega) ?_
        · rw [hx] at hy; cases hy
          rw [hxm]; omega
        · ((conv => whnf); (repeat (first | ((first | refine z1 ?_ | refine z2 ?_ | refine z3 ?_ | refine idxB_at (by decide) rfl ?_ | refine atB_at (by decide) (by decide) ?_ | refine getB_lit _ rfl ?_ | refine z7 ?_); conv => whnf) | trivial)))
      · have hp := fin (fun y hy _ => by rw [Nat.add_sub_cancel, hx] at hy; cases hy; rw [hxm]; omega)
        refine slB 0 (j + 1) rfl rfl (by simp; omega) ?_
        ((conv => whnf); (repeat (first | ((first | refine z1 ?_ | refine z2 ?_ | refine z3 ?_ | refine idxB_at (by decide) rfl ?_ | refine atB_at (by decide) (by decide) ?_ | refine getB_lit _ rfl ?_ | refine z7 ?_); conv => whnf) | trivial)))
        refine slB (j + 1) m.ents.length rfl (by simp [isHi]) (by simp; omega) ?_
        ((conv => whnf); (repeat (first | ((first | refine z1 ?_ | refine z2 ?_ | refine z3 ?_ | refine idxB_at (by decide) rfl ?_ | refine atB_at (by decide) (by decide) ?_ | refine getB_lit _ rfl ?_ | refine z7 ?_); conv => whnf) | trivial)))
        refine frzK ?_
        ((conv => whnf); (repeat (first | ((first | refine z1 ?_ | refine z2 ?_ | refine z3 ?_ | refine idxB_at (by decide) rfl ?_ | refine atB_at (by decide) (by decide) ?_ | refine getB_lit _ rfl ?_ | refine z7 ?_); conv => whnf) | trivial)))
        refine cb ⟨by simp only [List.length_append], insRow _ _ (j + 1) (by omega) hp⟩ ?_
        ((conv => whnf); (repeat (first | ((first | refine z1 ?_ | refine z2 ?_ | refine z3 ?_ | refine idxB_at (by decide) rfl ?_ | refine atB_at (by decide) (by decide) ?_ | refine getB_lit _ rfl ?_ | refine z7 ?_); conv => whnf) | trivial)))
        refine cb ⟨by simp, by simp [intD]⟩ ?_
        ((conv => whnf); (repeat (first | ((first | refine z1 ?_ | refine z2 ?_ | refine z3 ?_ | refine idxB_at (by decide) rfl ?_ | refine atB_at (by decide) (by decide) ?_ | refine getB_lit _ rfl ?_ | refine z7 ?_); conv => whnf) | trivial)))
    · have hp := fin (fun y hy h0 => by omega)
      have h0 : i = 0 := by omega
      subst h0
      refine slB 0 0 rfl rfl (by simp) ?_
      ((conv => whnf); (repeat (first | ((first | refine z1 ?_ | refine z2 ?_ | refine z3 ?_ | refine idxB_at (by decide) rfl ?_ | refine atB_at (by decide) (by decide) ?_ | refine getB_lit _ rfl ?_ | refine z7 ?_); conv => whnf) | trivial)))
      refine slB 0 m.ents.length rfl (by simp [isHi]) (by simp) ?_
      ((conv => whnf); (repeat (first | ((first | refine z1 ?_ | refine z2 ?_ | refine z3 ?_ | refine idxB_at (by decide) rfl ?_ | refine atB_at (by decide) (by decide) ?_ | refine getB_lit _ rfl ?_ | refine z7 ?_); conv => whnf) | trivial)))
      refine frzK ?_
      ((conv => whnf); (repeat (first | ((first | refine z1 ?_ | refine z2 ?_ | refine z3 ?_ | refine idxB_at (by decide) rfl ?_ | refine atB_at (by decide) (by decide) ?_ | refine getB_lit _ rfl ?_ | refine z7 ?_); conv => whnf) | trivial)))
      refine cb ⟨by simp only [List.length_append], insRow _ _ 0 (by omega) hp⟩ ?_
      ((conv => whnf); (repeat (first | ((first | refine z1 ?_ | refine z2 ?_ | refine z3 ?_ | refine idxB_at (by decide) rfl ?_ | refine atB_at (by decide) (by decide) ?_ | refine getB_lit _ rfl ?_ | refine z7 ?_); conv => whnf) | trivial)))
      refine cb ⟨by simp, by simp [intD]⟩ ?_
      ((conv => whnf); (repeat (first | ((first | refine z1 ?_ | refine z2 ?_ | refine z3 ?_ | refine idxB_at (by decide) rfl ?_ | refine atB_at (by decide) (by decide) ?_ | refine getB_lit _ rfl ?_ | refine z7 ?_); conv => whnf) | trivial)))
  · refine frzK ?_
    rw [insertM, if_neg g3, if_neg g4, if_pos (.inl g5)]
    ((conv => whnf); (repeat (first | ((first | refine z1 ?_ | refine z2 ?_ | refine z3 ?_ | refine idxB_at (by decide) rfl ?_ | refine atB_at (by decide) (by decide) ?_ | refine getB_lit _ rfl ?_ | refine z7 ?_); conv => whnf) | trivial)))
end Go.Proofs.Ytmihhkcbbdpnaaa.Abs
