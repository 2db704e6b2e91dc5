/- Insertions of many threads beside the reference: the walk. -/
import Derived.Test.YtcffiehcdadimaaGreatM19
namespace Go.Proofs.YtcffiehcdadimaaGreat.Abs
open Go.Proofs
set_option maxRecDepth 10000
set_option linter.unusedSimpArgs false
set_option linter.unusedVariables false
set_option maxHeartbeats 16000000 in
theorem mi_none (c : Int) (l : List OpS) (times picks : List Int) (hpk : ∀ y ∈ picks, 0 ≤ y ∧ y ≤ 255) {n : Nat} (hn : 1 ≤ n ∧ n ≤ 12) (s0 : Sto) (hsz : PSpec Tryz.prog 15 [.c (.int .u8 c)] (V.int n)) (hhd : PSpec Tryz.prog 42 [] (V.bool true))
 (hp : LSpec Tryz.prog 14 [V.int n, opsSV l] [] 0 (.tup [.p 0 10 0 0, .p 5 10 0 0]) (stoB s0 2 ++ rstoAt s0 5 7) 10) (h0 : MIOk n picks.length times.length ⟨0, 0, s0, fun _ => none, 0⟩) (hL : picks.length ≤ 300) (hH : times.length ≤ 30) {y : MI} (hy : MIOk n picks.length times.length y) (u : y.i < picks.length) {p : Int} (hpp : picks[y.i]? = some p) (pb1 : 0 ≤ p) (pb2 : p ≤ 255) {t : Nat} (ht : p.tmod 4 = (t : Int)) (ht4 : t < 4) (ho : y.cs t = none) :
 (mi_def c l times picks hpk hn s0 hsz hhd hp h0).1 y := by
 have hml : (picks.map u8D).length = picks.length := List.length_map ..
 have hmh : (times.map intD).length = times.length := List.length_map ..
 have hi := hy.i
 obtain ⟨S, A, hci0⟩ := hy.ci
 refine RoundG.mk { y with cur := t } _ _ (mi_sub (by decide) y hy.cur ht4 rfl rfl rfl) (congrArg (fun E => hAt (E ++ _)) (ibb_none ho)) (fam_shut (k := 13) (m := 4) (lo := 40) (ibb_bun _ 384 389) (by decide) (by decide)) (by rfl) (go ?_)
 rw [hml]
 rw [decide_eq_true (show (y.i : Int) < picks.length by omega)]
 (refine go ?_; try exact True.intro)
 refine idxB hpp (go ?_)
 rw [ht]
 (refine go ?_; try exact True.intro)
 refine atB ht4 (go ?_)
 refine optK_eq (arr_none ho ht4 rfl) (go ?_)
 rw [hmh]
 have hnx := hy.nx
 by_cases v : y.nx < times.length
 case neg =>
  rw [decide_eq_true (show (times.length : Int) ≤ y.nx by omega)]
  (refine go ?_; try exact True.intro)
  refine wrB (by show -9223372036854775808 ≤ (y.i : Int) + 1 ∧ (y.i : Int) + 1 ≤ 9223372036854775807; omega) (go ?_)
  refine .mk [] ⟨y.i + 1, y.nx, y.s, y.cs, t⟩ [(20, .dat 1 []), (21, .dat 1 []), (22, .dat 1 []), (23, .dat 1 []), (24, .dat 1 []), (25, .dat 1 []), (26, .dat 1 []), (27, .dat 1 []), (28, .dat 1 []), (29, .dat 1 []), (30, .dat 1 []), (31, .dat 1 []), (32, .dat 1 [])] ⟨u, hy.nx, ht4, S, A, ⟨hci0.sb.mono (by show 241 + y.i ≤ 241 + (y.i + 1); omega) (by show 241 + (y.i + 1) ≤ 20000; omega), hci0.thr, hci0.ops, hci0.hnd, hci0.ex⟩⟩ (by show picks.length - (y.i + 1) < picks.length - y.i; omega) (by unfold miF; dsimp only; rw [ibb_none ho]) (go ?_)
  refine BO.mk _ rfl (renB_nil _).symm (arrP_below _ (by decide) (by decide) (by decide)) (go ?_)
  refine BO.mk _ rfl (renB_nil _).symm (arrP_below _ (by decide) (by decide) (by decide)) (go ?_)
  iterate 13 (refine BO.no rfl trivial ?_; (refine go ?_; try exact True.intro))
 rw [decide_eq_false (show ¬ (times.length : Int) ≤ y.nx by omega)]
 obtain ⟨raw, hraw⟩ := get_lt v
 (refine go ?_; try exact True.intro)
 refine idxB hraw (go ?_)
 refine callB (timeIC raw) ?_
 generalize timeI raw = x
 (refine go ?_; try exact True.intro)
 refine wrB (by show -9223372036854775808 ≤ (y.nx : Int) + 1 ∧ (y.nx : Int) + 1 ≤ 9223372036854775807; omega) (go ?_)
 refine callL (iNewC y.s t ⟨1, x, 0, 0, 0⟩) [some 384, some 385, some 1, some 387, some 388] [] rfl (go ?_)
 refine atB ht4 (go ?_)
 refine okK_eq (okPut ht4 rfl) (go ?_)
 refine listK_eq (arr_put ht4 rfl (.p 3968 16 0 0)) (go ?_)
 refine callL (rINewC y.s t ⟨1, x, 0, 0, 0⟩) [some 389, some 390, some 2, some 392, some 393] [] rfl (go ?_)
 refine atB ht4 (go ?_)
 refine okK_eq (okPut ht4 rfl) (go ?_)
 refine listK_eq (arr_put ht4 rfl (.p 4416 20 0 0)) (go ?_)
 refine atB ht4 (go ?_)
 refine optK_eq (arr_upd ht4 rfl _) (go ?_)
 have hci := hci0.new ho x
 obtain ⟨hok, hth⟩ := hci.ops t (IOp.new t x) ht4 (upd_same ..)
 have a1 := iStepC hci.sb (by omega) hci.thr hok
 have a2 := rIStepC hci.sb (by omega) hci.thr hok ⟨1, x, 0, 0, 0⟩ rfl
 obtain ⟨S', A', hci'⟩ := hci.step (by omega) ht4 (upd_same ..)
 have hth' : ((IOp.new t x).step y.s).1.th = t ∧ ((IOp.new t x).step y.s).1.t = x := by
  obtain ⟨_, _, _, _, _, _, b5, b6⟩ := IOp.step_ok hci.sb (by omega) hci.thr hok
  exact ⟨b5, b6⟩
 obtain ⟨o1, s1, hr⟩ : ∃ o1 s1, (IOp.new t x).step y.s = (o1, s1) := ⟨_, _, rfl⟩
 rw [hr, upd_upd] at hci'
 rw [hr] at a1 a2 hth'
 dsimp only at a1 a2 hci' hth'
 refine atB ht4 (go ?_)
 refine optK_eq (arr_upd ht4 rfl _) (go ?_)
 refine callO a1 [some 3968, some 21, some 22, some 23, some 24, some 25, some 26, some 27, some 28, some 29, some 30, some 31, some 384, some 385, some 1, some 387, some 388] [] _ _ _ (iB0_at (ν := fun x => match x with | 0 => 3968 | x => 20 + x) (IOp.new t x) y.s (by decide) rfl rfl rfl rfl rfl) (iB1_at (ν := fun x => match x with | 0 => 3968 | x => 5056 + x) o1 s1 rfl (by decide) rfl rfl rfl rfl rfl) rfl rfl (go ?_)
 refine atB ht4 (go ?_)
 refine optK_eq (arr_upd ht4 rfl _) (go ?_)
 refine callL a2 [some 4416, some 389, some 390, some 2, some 392, some 393] [] rfl (go ?_)
 rw [show (!(o1.done == o1.done)) = false by simp]
 (refine go ?_; try exact True.intro)
 refine atB ht4 (go ?_)
 refine optK_eq (arr_upd ht4 rfl _) (go ?_)
 refine dcallRO (iEffectC o1 s1) [some 3968, some 5057, some 5058, some 5059, some 5060, some 5061, some 5062, some 5063, some 5064, some 5065, some 5066, some 5067, some 384, some 385, some 5056, some 387, some 388] _ _ (iB0_at (ν := fun x => match x with | 0 => 3968 | x => 5056 + x) o1 s1 (by decide) rfl rfl rfl rfl rfl) rfl (go ?_)
 refine atB ht4 (go ?_)
 refine optK_eq (arr_upd ht4 rfl _) (go ?_)
 rw [show (!(o1.eff == o1.ri.pt)) = false by simp [IOp.ri]]
 (refine go ?_; try exact True.intro)
 refine atB ht4 (go ?_)
 refine optK_eq (arr_upd ht4 rfl _) (go ?_)
 refine dcallRO (iBlockedC o1 s1) [some 3968, some 5057, some 5058, some 5059, some 5060, some 5061, some 5062, some 5063, some 5064, some 5065, some 5066, some 5067, some 384, some 385, some 5056, some 387, some 388] _ _ (iB0_at (ν := fun x => match x with | 0 => 3968 | x => 5056 + x) o1 s1 (by decide) rfl rfl rfl rfl rfl) rfl (go ?_)
 refine atB ht4 (go ?_)
 refine optK_eq (arr_upd ht4 rfl _) (go ?_)
 rw [show (!(o1.blk == o1.ri.wt)) = false by simp [IOp.ri]]
 (refine go ?_; try exact True.intro)
 refine atB ht4 (go ?_)
 refine optK_eq (arr_upd ht4 rfl _) (go ?_)
 refine dcallRO (iResultC o1 s1) [some 3968, some 5057, some 5058, some 5059, some 5060, some 5061, some 5062, some 5063, some 5064, some 5065, some 5066, some 5067, some 384, some 385, some 5056, some 387, some 388] _ _ (iB0_at (ν := fun x => match x with | 0 => 3968 | x => 5056 + x) o1 s1 (by decide) rfl rfl rfl rfl rfl) rfl (go ?_)
 refine atB ht4 (go ?_)
 refine optK_eq (arr_upd ht4 rfl _) (go ?_)
 refine dcallR (rIResultC o1 t ⟨1, x, 0, 0, 0⟩) [some 4416, some 389] rfl rfl (go ?_)
 refine dcallC (eqlI o1.re o1.rh) (go ?_)
 rcases Bool.eq_false_or_eq_true o1.done with hd | hd
 · rw [hd]
   (refine go ?_; try exact True.intro)
   refine atB ht4 (go ?_)
   refine okK_eq (okPut ht4 rfl) (go ?_)
   refine listK_eq (arr_put ht4 rfl (.c (.pointer none))) (go ?_)
   refine atB ht4 (go ?_)
   refine okK_eq (okPut ht4 rfl) (go ?_)
   refine listK_eq (arr_put ht4 rfl (.c (.pointer none))) (go ?_)
   refine wrB (by show -9223372036854775808 ≤ (y.i : Int) + 1 ∧ (y.i : Int) + 1 ≤ 9223372036854775807; omega) (go ?_)
   rw [left_done hd] at hci'
   refine .mk [(1, 5056), (2, 5376)] ⟨y.i + 1, y.nx + 1, s1, upd y.cs t none, t⟩ [(20, .dat 1 []), (21, .dat 1 []), (22, .dat 1 []), (23, .dat 1 []), (24, .dat 1 []), (25, .dat 1 []), (26, .dat 1 []), (27, .dat 1 []), (28, .dat 1 []), (29, .dat 1 []), (30, .dat 1 []), (31, .dat 1 []), (32, .dat 1 [])] ⟨u, by show y.nx + 1 ≤ _; omega, ht4, S', A', hci'⟩ (by show picks.length - (y.i + 1) < picks.length - y.i; omega) (by unfold miF; dsimp only; rw [famR_upd, ibb_none (upd_same ..)]) (go ?_)
   refine BO.mk _ rfl (by rw [upd_upd]; exact arr_made rfl (by decide) rfl) (arrP_below _ (by decide) (by decide) (by decide)) (go ?_)
   refine BO.mk _ rfl (by rw [upd_upd]; exact arr_made rfl (by decide) rfl) (arrP_below _ (by decide) (by decide) (by decide)) (go ?_)
   iterate 13 (refine BO.no rfl trivial ?_; (refine go ?_; try exact True.intro))
 · rw [hd]
   (refine go ?_; try exact True.intro)
   refine wrB (by show -9223372036854775808 ≤ (y.i : Int) + 1 ∧ (y.i : Int) + 1 ≤ 9223372036854775807; omega) (go ?_)
   rw [left_run hd] at hci'
   refine .mk [(1, 5056), (2, 5376), (20, 3968), (21, 5057), (22, 5058), (23, 5059), (24, 5060), (25, 5061), (26, 5062), (27, 5063), (28, 5064), (29, 5065), (30, 5066), (31, 5067), (32, 4416)] ⟨y.i + 1, y.nx + 1, s1, upd y.cs t (some o1), t⟩ [(20, o1.blkB 384 (fun x => 20 + x) 0), (21, o1.blkB 384 (fun x => 20 + x) 1), (22, o1.blkB 384 (fun x => 20 + x) 2), (23, o1.blkB 384 (fun x => 20 + x) 3), (24, o1.blkB 384 (fun x => 20 + x) 4), (25, o1.blkB 384 (fun x => 20 + x) 5), (26, o1.blkB 384 (fun x => 20 + x) 6), (27, o1.blkB 384 (fun x => 20 + x) 7), (28, o1.blkB 384 (fun x => 20 + x) 8), (29, o1.blkB 384 (fun x => 20 + x) 9), (30, o1.blkB 384 (fun x => 20 + x) 10), (31, o1.blkB 384 (fun x => 20 + x) 11), (32, rI 389 o1.th ⟨1, o1.t, 0, 0, 0⟩ o1.ri)] ⟨u, by show y.nx + 1 ≤ _; omega, ht4, S', A', hci'⟩ (by show picks.length - (y.i + 1) < picks.length - y.i; omega) (by unfold miF; dsimp only; rw [famR_upd, ibb_some (upd_same ..)]) (go ?_)
   refine BO.mk _ rfl (arr_made rfl (by decide) rfl) (arrP_below _ (by decide) (by decide) (by decide)) (go ?_)
   refine BO.mk _ rfl (arr_made rfl (by decide) rfl) (arrP_below _ (by decide) (by decide) (by decide)) (go ?_)
   iterate 12 (refine boBlk (o := o1) (st := 384) (ν := fun x => 20 + x) (fun x => match x with | 0 => 3968 | x => 5056 + x) ?_ (by rfl) (by rfl) (by decide) (by decide) (by decide); (refine go ?_; try exact True.intro))
   rw [hth'.1, hth'.2]
   refine boRI ?_ (by rfl) (by rfl) (by decide)
   (refine go ?_; try exact True.intro)
end Go.Proofs.YtcffiehcdadimaaGreat.Abs
