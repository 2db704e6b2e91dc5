/- Rules that find their own side conditions: what the short words of the texts call. -/
import Derived.Test.YtmihhkcbbdpnaaaL3
import Derived.Test.YtmihhkcbbdpnaaaTB
namespace Go.Proofs.Ytmihhkcbbdpnaaa.Abs
open Go.Proofs
theorem z1 {n : Int} {K : Int → Prop} (k : K n) (h : -9223372036854775808 ≤ n ∧ n ≤ 9223372036854775807 := by omega) : WrB .i64 n K := wrB h k
theorem z2 {c : Bool} {K : Prop} (k : K) (h : c = true := by kernel_rfl) : OkB c K := okB h k
theorem z3 {p K : Prop} (k : K) (h : p := by first | rfl | omega | (simp; done) | (simp; omega)) : CB p K := cb h k
theorem z7 {N : Nat} {c : Code} {t : List V} {h : List (Nat × B)} {b : Nat} {K : Ex → List V → List (Nat × B) → Nat → Prop} (hk : stepK Try.prog tab N c t h b K) : StepB Try.prog tab N c t h b K := cnd tab_ok mix hk
end Go.Proofs.Ytmihhkcbbdpnaaa.Abs
