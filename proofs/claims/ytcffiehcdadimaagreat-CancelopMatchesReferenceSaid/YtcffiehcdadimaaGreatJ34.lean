/- Laws of cancellations: beside the reference. -/
import Derived.Test.YtcffiehcdadimaaGreatJ33
namespace Go.Proofs.YtcffiehcdadimaaGreat.Abs
open Go.Proofs
set_option maxRecDepth 10000
set_option linter.unusedSimpArgs false
set_option linter.unusedVariables false
theorem cancelopMatches (c : Int) (hc : 0 ≤ c ∧ c ≤ 255) (l : List OpS) (hl : ∀ o ∈ l, o.Ok) (handles picks : List Int) (hpk : ∀ y ∈ picks, 0 ≤ y ∧ y ≤ 255) :
    PSpec Tryz.prog 7 [.c (.int .u8 c), opsSV l, intsV handles, u8sV picks] (V.bool true) := by
  obtain ⟨_, hn⟩ := capN_ok hc.1
  have hsz := sizeC c hc
  have hp := preparedC hn l hl
  have hr := prep_ready hn hl
  generalize prepS (capN c) l = s at *
  generalize (runF (capN c) l (min l.length 60)).2 = S at *
  generalize capN c = n at *
  have hw : Wds s 967 := hr.ok.wds
  have hl9 := hr.ok.log
  exact mr_walk c l handles picks hpk hn s S hsz hp ⟨Nat.zero_le _, Nat.zero_le _, hw, hr.ok.ns, by dsimp only; omega, hr.ok.shown, by have := hr.ok.idle_len; dsimp only; omega, .none, .none, .none, .none⟩
end Go.Proofs.YtcffiehcdadimaaGreat.Abs
