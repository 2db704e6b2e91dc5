/- Laws of the model as contracts: the capacity; what is accepted. -/
import Derived.Test.YtmihhkcbbdpnaaaF16
namespace Go.Proofs.Ytmihhkcbbdpnaaa.Abs
open Go.Proofs
set_option maxRecDepth 10000
set_option linter.unusedSimpArgs false
set_option linter.unusedVariables false

theorem batchL_all (b x : Int) : ∀ (l : List Ent) (out : List Evt), (∀ e ∈ l, e.time < b) → ((out.length + l.length : Nat) : Int) ≤ x → (batchL b x l out).1 = []
  | [], out, _, _ => rfl
  | e :: l, out, h, hx => by
    simp only [List.length_cons] at hx
    rw [batchL, if_pos ⟨h e (by simp), by omega⟩]
    have h2 : (if e.dead = true then out else out ++ [⟨e.time, e.handle⟩]).length ≤ out.length + 1 := by split <;> simp
    exact batchL_all b x l _ (fun y hy => h y (by simp [hy])) (by omega)
theorem pqCapacity (k : Int) (l : List Stp) (t h fresh : Int) (hk : 0 ≤ k ∧ k ≤ 255) (ht : 0 ≤ t ∧ t ≤ 4294967295) : PSpec Try.prog 7 [.c (.int .u8 k), stpsV l, .c (.int .u32 t), V.int h, V.int fresh] (V.bool true) := by
  have hm := madeM_ok hk l
  have hi := madeM_iss k l
  have hf := hm.fits (by omega)
  refine pspec tab_ok mix Try.func7 (by kernel_rfl) rfl rfl ?_
  ((conv => whnf); (repeat (first | ((first | refine z1 ?_ | refine z2 ?_ | refine z3 ?_ | refine idxB_at (by decide) rfl ?_ | refine atB_at (by decide) (by decide) ?_ | refine getB_lit _ rfl ?_ | refine z7 ?_); conv => whnf) | trivial)))
  refine callB headC10 ?_
  ((conv => whnf); (repeat (first | ((first | refine z1 ?_ | refine z2 ?_ | refine z3 ?_ | refine idxB_at (by decide) rfl ?_ | refine atB_at (by decide) (by decide) ?_ | refine getB_lit _ rfl ?_ | refine z7 ?_); conv => whnf) | trivial)))
  refine callB (madeC k l hk) ?_
  ((conv => whnf); (repeat (first | ((first | refine z1 ?_ | refine z2 ?_ | refine z3 ?_ | refine idxB_at (by decide) rfl ?_ | refine atB_at (by decide) (by decide) ?_ | refine getB_lit _ rfl ?_ | refine z7 ?_); conv => whnf) | trivial)))
  generalize madeM k l = m at *
  refine callB (doMC m ⟨2, 0, h, 0, 0⟩ 0 hf (hm.ins _ _).mono) ?_
  ((conv => whnf); (repeat (first | ((first | refine z1 ?_ | refine z2 ?_ | refine z3 ?_ | refine idxB_at (by decide) rfl ?_ | refine atB_at (by decide) (by decide) ?_ | refine getB_lit _ rfl ?_ | refine z7 ?_); conv => whnf) | trivial)))
  refine callB (doMC m ⟨1, t, 0, 0, 0⟩ fresh hf (hm.ins _ _).mono) ?_
  ((conv => whnf); (repeat (first | ((first | refine z1 ?_ | refine z2 ?_ | refine z3 ?_ | refine idxB_at (by decide) rfl ?_ | refine atB_at (by decide) (by decide) ?_ | refine getB_lit _ rfl ?_ | refine z7 ?_); conv => whnf) | trivial)))
  refine callB (doMC m ⟨3, 0, 0, 64, 1152921504606846977⟩ 0 hf (hm.ins _ _).mono) ?_
  ((conv => whnf); (repeat (first | ((first | refine z1 ?_ | refine z2 ?_ | refine z3 ?_ | refine idxB_at (by decide) rfl ?_ | refine atB_at (by decide) (by decide) ?_ | refine getB_lit _ rfl ?_ | refine z7 ?_); conv => whnf) | trivial)))
  have e1 : (doM m ⟨2, 0, h, 0, 0⟩ 0).1.ents.length = m.ents.length := by
    show (cancelM m ⟨2, 0, h, 0, 0⟩).1.ents.length = _
    unfold cancelM
    split <;> simp
  have e2 : (doM m ⟨1, t, 0, 0, 0⟩ fresh).2.err = 10 ↔ (m.ents.length : Int) = m.cap := by
    show (insertM m ⟨1, t, 0, 0, 0⟩ fresh).2.err = 10 ↔ _
    unfold insertM
    rw [if_neg (by dsimp only; omega)]
    by_cases hc : (m.ents.length : Int) = m.cap
    · rw [if_pos hc]; simp [Res.er, hc]
    · rw [if_neg hc]
      split <;> simp [Res.er, hc]
  have e3 : (doM m ⟨3, 0, 0, 64, 1152921504606846977⟩ 0).1.ents = [] := by
    show (batchM m ⟨3, 0, 0, 64, 1152921504606846977⟩).1.ents = []
    unfold batchM
    rw [if_neg (by simp)]
    exact batchL_all _ _ _ _ (fun e he => by have := (hm.ent e he).t1; dsimp only; omega) (by have := hm.len; have := hm.c1; simp; omega)
  refine br_dec (fun _ => ?_) (fun g => absurd (by simp [e1]) g)
  ((conv => whnf); (repeat (first | ((first | refine z1 ?_ | refine z2 ?_ | refine z3 ?_ | refine idxB_at (by decide) rfl ?_ | refine atB_at (by decide) (by decide) ?_ | refine getB_lit _ rfl ?_ | refine z7 ?_); conv => whnf) | trivial)))
  refine br_eq (p := True) (by simp [e2]) (fun _ => ?_) (fun g => absurd trivial g)
  ((conv => whnf); (repeat (first | ((first | refine z1 ?_ | refine z2 ?_ | refine z3 ?_ | refine idxB_at (by decide) rfl ?_ | refine atB_at (by decide) (by decide) ?_ | refine getB_lit _ rfl ?_ | refine z7 ?_); conv => whnf) | trivial)))
  exact .same (by simp [e3])
end Go.Proofs.Ytmihhkcbbdpnaaa.Abs
