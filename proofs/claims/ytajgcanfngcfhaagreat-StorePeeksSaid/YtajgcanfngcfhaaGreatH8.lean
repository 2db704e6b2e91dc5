/- The number of bits of a small number, by the kit's own walk (the code indexes a text). Printed by a program. -/
import Derived.Test.YtajgcanfngcfhaaGreatH1
import Derived.ProofKit
import Derived.OpenShut
import Derived.Lib.Hide
namespace Go.Proofs.YtajgcanfngcfhaaGreat.Abs
open Go.ChangeShapes Go.WideShapes Go.ChangeAt Go.RowKit
set_option linter.unusedVariables false
set_option maxRecDepth 100000
theorem PSpec.of_calls {P : Program} {f : FuncId} {fn : Func} {a v : Value} (hf : P.funcs[f]? = some fn) (hname : (fn.name == "runtime.NumGoroutine") = false) (hb : fn.body.isNone = false) (h : ∀ w, Calls P f #[a] w fun e w' => e = .returned v ∧ w = w') : PSpec P f [.c a] (.c v) := by
  refine ⟨fun x hx => by rw [List.mem_singleton] at hx; subst hx; exact .c _, .c _, fun F ids w vals hF hsz hv => ?_⟩
  have e : vals = #[a] := by
    have h1 : vals.size = 1 := hsz
    have h0 := hv 0 (.c a) vals[0] rfl (by simp)
    have h2 : vals[0] = a := by
      generalize vals[0] = z at h0
      cases h0; rfl
    apply Array.ext (by simpa using h1)
    intro i h1' h2'
    have : i = 0 := by simp at h2'; exact h2'
    subst this
    simpa using h2
  subst e
  refine ⟨?_, (h w).mono ?_⟩
  · simp only [callFunc, Sem.run_bind, run_program, Result.andThen_ok, hf, hname, Bool.false_eq_true, if_false, hb, Sem.run_pure]
  · rintro e w' ⟨rfl, rfl⟩
    exact ⟨v, rfl, .c _, Goes.refl _ _⟩
theorem len64_0 (w : World) : Calls Tryz.prog 194 #[.int .u64 0] w fun e w' => e = .returned (.int .i64 0) ∧ w = w' := by
  go_enter Tryz.func194, Tryz.ntmps194
  go_wp2
  go_ret
  exact ⟨by kernel_rfl, by kernel_rfl⟩
theorem len64_1 (w : World) : Calls Tryz.prog 194 #[.int .u64 1] w fun e w' => e = .returned (.int .i64 1) ∧ w = w' := by
  go_enter Tryz.func194, Tryz.ntmps194
  go_wp2
  go_ret
  exact ⟨by kernel_rfl, by kernel_rfl⟩
theorem len64_2 (w : World) : Calls Tryz.prog 194 #[.int .u64 2] w fun e w' => e = .returned (.int .i64 2) ∧ w = w' := by
  go_enter Tryz.func194, Tryz.ntmps194
  go_wp2
  go_ret
  exact ⟨by kernel_rfl, by kernel_rfl⟩
theorem len64_3 (w : World) : Calls Tryz.prog 194 #[.int .u64 3] w fun e w' => e = .returned (.int .i64 2) ∧ w = w' := by
  go_enter Tryz.func194, Tryz.ntmps194
  go_wp2
  go_ret
  exact ⟨by kernel_rfl, by kernel_rfl⟩
theorem len64_4 (w : World) : Calls Tryz.prog 194 #[.int .u64 4] w fun e w' => e = .returned (.int .i64 3) ∧ w = w' := by
  go_enter Tryz.func194, Tryz.ntmps194
  go_wp2
  go_ret
  exact ⟨by kernel_rfl, by kernel_rfl⟩
theorem len64_5 (w : World) : Calls Tryz.prog 194 #[.int .u64 5] w fun e w' => e = .returned (.int .i64 3) ∧ w = w' := by
  go_enter Tryz.func194, Tryz.ntmps194
  go_wp2
  go_ret
  exact ⟨by kernel_rfl, by kernel_rfl⟩
theorem len64_6 (w : World) : Calls Tryz.prog 194 #[.int .u64 6] w fun e w' => e = .returned (.int .i64 3) ∧ w = w' := by
  go_enter Tryz.func194, Tryz.ntmps194
  go_wp2
  go_ret
  exact ⟨by kernel_rfl, by kernel_rfl⟩
theorem len64_7 (w : World) : Calls Tryz.prog 194 #[.int .u64 7] w fun e w' => e = .returned (.int .i64 3) ∧ w = w' := by
  go_enter Tryz.func194, Tryz.ntmps194
  go_wp2
  go_ret
  exact ⟨by kernel_rfl, by kernel_rfl⟩
theorem len64_8 (w : World) : Calls Tryz.prog 194 #[.int .u64 8] w fun e w' => e = .returned (.int .i64 4) ∧ w = w' := by
  go_enter Tryz.func194, Tryz.ntmps194
  go_wp2
  go_ret
  exact ⟨by kernel_rfl, by kernel_rfl⟩
theorem len64_9 (w : World) : Calls Tryz.prog 194 #[.int .u64 9] w fun e w' => e = .returned (.int .i64 4) ∧ w = w' := by
  go_enter Tryz.func194, Tryz.ntmps194
  go_wp2
  go_ret
  exact ⟨by kernel_rfl, by kernel_rfl⟩
theorem len64_10 (w : World) : Calls Tryz.prog 194 #[.int .u64 10] w fun e w' => e = .returned (.int .i64 4) ∧ w = w' := by
  go_enter Tryz.func194, Tryz.ntmps194
  go_wp2
  go_ret
  exact ⟨by kernel_rfl, by kernel_rfl⟩
theorem len64_11 (w : World) : Calls Tryz.prog 194 #[.int .u64 11] w fun e w' => e = .returned (.int .i64 4) ∧ w = w' := by
  go_enter Tryz.func194, Tryz.ntmps194
  go_wp2
  go_ret
  exact ⟨by kernel_rfl, by kernel_rfl⟩
theorem len64_12 (w : World) : Calls Tryz.prog 194 #[.int .u64 12] w fun e w' => e = .returned (.int .i64 4) ∧ w = w' := by
  go_enter Tryz.func194, Tryz.ntmps194
  go_wp2
  go_ret
  exact ⟨by kernel_rfl, by kernel_rfl⟩
theorem len64C (n : Nat) (h : n ≤ 12) : ∃ r, PSpec Tryz.prog 194 [.c (.int .u64 n)] (V.int r) := by
  have go : ∀ {k : Nat} {r : Int}, (∀ w, Calls Tryz.prog 194 #[.int .u64 k] w fun e w' => e = .returned (.int .i64 r) ∧ w = w') → ∃ r, PSpec Tryz.prog 194 [.c (.int .u64 k)] (V.int r) := fun hc => ⟨_, PSpec.of_calls Tryz.func194 (by kernel_rfl) (by kernel_rfl) hc⟩
  have : n = 0 ∨ n = 1 ∨ n = 2 ∨ n = 3 ∨ n = 4 ∨ n = 5 ∨ n = 6 ∨ n = 7 ∨ n = 8 ∨ n = 9 ∨ n = 10 ∨ n = 11 ∨ n = 12 := by omega
  rcases this with rfl | rfl | rfl | rfl | rfl | rfl | rfl | rfl | rfl | rfl | rfl | rfl | rfl
  · exact go len64_0
  · exact go len64_1
  · exact go len64_2
  · exact go len64_3
  · exact go len64_4
  · exact go len64_5
  · exact go len64_6
  · exact go len64_7
  · exact go len64_8
  · exact go len64_9
  · exact go len64_10
  · exact go len64_11
  · exact go len64_12
theorem lenC64 (n : Nat) (h : n ≤ 12) : ∃ r, PSpec Tryz.prog 142 [.c (.int .u64 n)] (V.int r) := by
  obtain ⟨r, hr⟩ := len64C n h
  refine ⟨r, ?_⟩
  refine pspec tab_ok mix Tryz.func142 (by kernel_rfl) rfl rfl ?_
  ((conv => whnf); (repeat (first | ((first | refine z1 ?_ | refine z2 ?_ | refine z3 ?_ | refine idxB_at (by decide) rfl ?_ | refine atB_at (by decide) (by decide) ?_ | refine getB_lit _ rfl ?_ | refine z7 ?_); conv => whnf) | exact True.intro)))
  refine callB hr ?_
  ((conv => whnf); (repeat (first | ((first | refine z1 ?_ | refine z2 ?_ | refine z3 ?_ | refine idxB_at (by decide) rfl ?_ | refine atB_at (by decide) (by decide) ?_ | refine getB_lit _ rfl ?_ | refine z7 ?_); conv => whnf) | exact True.intro)))
  exact .same rfl
end Go.Proofs.YtajgcanfngcfhaaGreat.Abs
