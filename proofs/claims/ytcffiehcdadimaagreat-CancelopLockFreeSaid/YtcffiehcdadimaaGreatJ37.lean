/- Laws of cancellations: many calls, none of which takes a mutex. -/
import Derived.Test.YtcffiehcdadimaaGreatJ36
namespace Go.Proofs.YtcffiehcdadimaaGreat.Abs
open Go.Proofs
set_option maxRecDepth 10000
set_option linter.unusedSimpArgs false
set_option linter.unusedVariables false
theorem lf_long1 (c : Int) (l : List OpS) (handles picks : List Int) {n : Nat} (s : Sto) (hsz : PSpec Tryz.prog 15 [.c (.int .u8 c)] (V.int n))
    (hp : LSpec Tryz.prog 14 [V.int n, opsSV l] [] 0 (.tup [.p 0 10 0 0, .p 5 10 0 0]) (stoB s 2 ++ rstoAt s 5 7) 10) (hg : 20 < handles.length) :
    PSpec Tryz.prog 6 [.c (.int .u8 c), opsSV l, intsV handles, u8sV picks] (V.bool true) := by
  have hmh : (handles.map intD).length = handles.length := List.length_map ..
  refine pspec tab_ok mix Tryz.func6 (by kernel_rfl) rfl rfl ?_
  (refine go ?_; try exact True.intro)
  refine callB head13C ?_
  (refine go ?_; try exact True.intro)
  refine callB hsz ?_
  (refine go ?_; try exact True.intro)
  refine callL hp [] [] rfl ?_
  (refine go ?_; try exact True.intro)
  rw [hmh, decide_eq_true (show (20 : Int) < handles.length by omega)]
  (refine go ?_; try exact True.intro)
  exact .same rfl
theorem lf_long2 (c : Int) (l : List OpS) (handles picks : List Int) {n : Nat} (s : Sto) (hsz : PSpec Tryz.prog 15 [.c (.int .u8 c)] (V.int n))
    (hp : LSpec Tryz.prog 14 [V.int n, opsSV l] [] 0 (.tup [.p 0 10 0 0, .p 5 10 0 0]) (stoB s 2 ++ rstoAt s 5 7) 10) (hh : handles.length ≤ 20) (hg : 200 < picks.length) :
    PSpec Tryz.prog 6 [.c (.int .u8 c), opsSV l, intsV handles, u8sV picks] (V.bool true) := by
  have hmh : (handles.map intD).length = handles.length := List.length_map ..
  have hml : (picks.map u8D).length = picks.length := List.length_map ..
  refine pspec tab_ok mix Tryz.func6 (by kernel_rfl) rfl rfl ?_
  (refine go ?_; try exact True.intro)
  refine callB head13C ?_
  (refine go ?_; try exact True.intro)
  refine callB hsz ?_
  (refine go ?_; try exact True.intro)
  refine callL hp [] [] rfl ?_
  (refine go ?_; try exact True.intro)
  rw [hmh, decide_eq_false (show ¬ (20 : Int) < handles.length by omega)]
  (refine go ?_; try exact True.intro)
  rw [hml, decide_eq_true (show (200 : Int) < picks.length by omega)]
  (refine go ?_; try exact True.intro)
  exact .same rfl
theorem cancelopLockFree (c : Int) (hc : 0 ≤ c ∧ c ≤ 255) (l : List OpS) (hl : ∀ o ∈ l, o.Ok) (handles picks : List Int) (hpk : ∀ y ∈ picks, 0 ≤ y ∧ y ≤ 255) :
    PSpec Tryz.prog 6 [.c (.int .u8 c), opsSV l, intsV handles, u8sV picks] (V.bool true) := by
  obtain ⟨_, hn⟩ := capN_ok hc.1
  have hsz := sizeC c hc
  have hp := preparedC hn l hl
  have hr := prep_ready hn hl
  generalize prepS (capN c) l = s at *
  generalize (runF (capN c) l (min l.length 60)).2 = S at *
  generalize capN c = n at *
  have hw : Wds s 967 := hr.ok.wds
  have hl9 := hr.ok.log
  have hns := hr.ok.ns
  by_cases g1 : 20 < handles.length
  · exact lf_long1 c l handles picks s hsz hp g1
  by_cases g2 : 200 < picks.length
  · exact lf_long2 c l handles picks s hsz hp (by omega) g2
  refine lf_walk c l handles picks hpk hn s S hsz hp hw hns rfl (by omega) (by omega) ⟨Nat.zero_le _, hw, hns, by dsimp only; omega, rfl, ⟨[], by simp, by simp, by simp, fun t ht h => ?_⟩, fun t ht _ => ?_⟩
  · obtain ⟨a, ha, _⟩ := h
    cases ha
  · exact ⟨⟨(fun e => by cases e), (fun e => by cases e)⟩, rfl, (fun e => by cases e), (fun e => by cases e)⟩
end Go.Proofs.YtcffiehcdadimaaGreat.Abs
