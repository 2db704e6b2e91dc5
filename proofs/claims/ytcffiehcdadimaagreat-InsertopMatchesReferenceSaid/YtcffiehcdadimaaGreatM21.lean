/- Insertions: a call that runs alone; the fixed example. -/
import Derived.Test.YtcffiehcdadimaaGreatM20
namespace Go.Proofs.YtcffiehcdadimaaGreat.Abs
open Go.Proofs
set_option maxRecDepth 10000
set_option linter.unusedSimpArgs false
set_option linter.unusedVariables false
set_option maxHeartbeats 8000000 in
theorem iRunC (P : Nat → IOp) (Q : Nat → Sto) (m : Nat) (hm : 1 ≤ m ∧ m ≤ 20) (hst : ∀ k, k < m → IStep (P k) (Q k) (decide (k + 1 = m)) (P (k + 1)) (Q (k + 1))) :
 LSpec Tryz.prog 85 [.p 0 16 0 0, V.int 20] (iB0 (P 0) (Q 0)) 17 (V.int m) (iB1 (P m) (Q m)) 29 := by
 refine lspecO [0, 18, 19, 20, 21, 22, 23, 24, 25, 26, 27, 28] tab_ok mix Tryz.func85 (by kernel_rfl) (by rfl) (iB0_below _ _) (by rfl) (by rfl) (go ?_)
 refine loopO tab_ok mix [0, 21, 22, 23, 24, 25, 26, 27, 28, 29, 30, 31] [0, 1] [] (fun k : Nat => [(5, V.int ((k : Int) + 1))]) (fun k => bl12 (P k) 12 (fun x => match x with | 0 => 0 | x => 20 + x) ++ sto5 (Q k) 12 13 17 15 16) (fun k => k < m) (fun k => m - k) [(17, 14), (21, 1), (22, 2), (23, 3), (24, 4), (25, 5), (26, 6), (27, 7), (28, 8), (29, 9), (30, 10), (31, 11)] 0 rfl (by omega) ?_ ?_
 · (refine go ?_; try exact True.intro)
   iterate 12 (refine boBlk (o := P 0) (st := 12) (ν := fun x => match x with | 0 => 0 | x => 20 + x) (fun x => x) ?_ (by rfl) (by rfl) (by decide) (by decide) (by decide); (refine go ?_; try exact True.intro))
 intro k hk
 have h1 := hst k hk
 (refine go ?_; try exact True.intro)
 rw [decide_eq_true (show (k : Int) + 1 ≤ 20 by omega)]
 (refine go ?_; try exact True.intro)
 refine callO h1 [some 0, some 21, some 22, some 23, some 24, some 25, some 26, some 27, some 28, some 29, some 30, some 31, some 12, some 13, some 17, some 15, some 16] [] _ _ _ (iB0_at (ν := fun x => match x with | 0 => 0 | x => 20 + x) (P k) (Q k) (by decide) rfl rfl rfl rfl rfl) (iB1_at (ν := fun x => match x with | 0 => 0 | x => 448 + x) (P (k + 1)) (Q (k + 1)) rfl (by decide) rfl rfl rfl rfl rfl) rfl rfl (go ?_)
 by_cases hz : k + 1 = m
 · rw [decide_eq_true hz]
   (refine go ?_; try exact True.intro)
   subst hz
   refine .mk [(17, 448), (18, 449), (19, 450), (20, 451), (21, 452), (22, 453), (23, 454), (24, 455), (25, 456), (26, 457), (27, 458), (28, 459)] (go ?_)
   iterate 12 (refine boBlk (o := P (k + 1)) (st := 12) (ν := nu1) (fun x => match x with | 0 => 0 | x => 448 + x) ?_ (by rfl) (by rfl) (by decide) (by decide) (by decide); (refine go ?_; try exact True.intro))
 · rw [decide_eq_false hz]
   (refine go ?_; try exact True.intro)
   refine .mk [(17, 448), (21, 449), (22, 450), (23, 451), (24, 452), (25, 453), (26, 454), (27, 455), (28, 456), (29, 457), (30, 458), (31, 459)] (k + 1) (by omega) (by omega) (go ?_)
   iterate 12 (refine boBlk (o := P (k + 1)) (st := 12) (ν := fun x => match x with | 0 => 0 | x => 20 + x) (fun x => match x with | 0 => 0 | x => 448 + x) ?_ (by rfl) (by rfl) (by decide) (by decide) (by decide); (refine go ?_; try exact True.intro))
end Go.Proofs.YtcffiehcdadimaaGreat.Abs
