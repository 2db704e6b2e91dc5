/- Insertions of many threads beside the reference: the walk. -/
import Derived.Test.YtcffiehcdadimaaGreatM18
import Derived.Test.YtcffiehcdadimaaGreatJB
namespace Go.Proofs.YtcffiehcdadimaaGreat.Abs
open Go.Proofs
set_option maxRecDepth 10000
set_option linter.unusedSimpArgs false
set_option linter.unusedVariables false
def timeI (raw : Int) : Int := if raw.tmod 7 = 0 then raw else (raw.tmod 100 + 100).tmod 100
theorem timeIC (raw : Int) : PSpec Tryz.prog 45 [V.int raw] (V.int (timeI raw)) := by
 have hb := tmod_bounds raw 100 (by omega)
 unfold timeI
 by_cases h : raw.tmod 7 = 0
 · rw [if_pos h]
   refine pspec tab_ok mix Tryz.func45 (by kernel_rfl) rfl rfl ?_
   (refine go ?_; try exact True.intro)
   rw [decide_eq_true h]
   (refine go ?_; try exact True.intro)
   exact .same rfl
 · rw [if_neg h]
   refine pspec tab_ok mix Tryz.func45 (by kernel_rfl) rfl rfl ?_
   (refine go ?_; try exact True.intro)
   rw [decide_eq_false h]
   (refine go ?_; try exact True.intro)
   exact .same rfl
structure MI where
 i : Nat
 nx : Nat
 s : Sto
 cs : Nat → Option IOp
 cur : Nat
structure MIOk (n L H : Nat) (y : MI) : Prop where
 i : y.i ≤ L
 nx : y.nx ≤ H
 cur : y.cur < 4
 ci : ∃ S A, CI 4 n (241 + y.i) y.s y.cs S A
def miT (y : MI) : List (Nat × V) := [(14, V.int y.nx), (15, V.int y.i)]
def miA (y : MI) : List (Nat × (Nat → B)) := [(3, arrP y.cs 16 0 13), (4, arrP y.cs 20 12 13)]
def miC (s : Sto) : List (Nat × B) := stoAt s 384 1 ++ rstoAt s 389 2
def miH (y : MI) : List (Nat × B) := (miA y).map (fun p => (p.1, p.2 y.cur)) ++ miC y.s
def miF (y : MI) : List (Nat × B) := famO (ibb y.cs 384 389) 20 13 y.cur ++ famR (ibb y.cs 384 389) 40 13 4 y.cur
noncomputable def mi_def (c : Int) (l : List OpS) (times picks : List Int) (hpk : ∀ y ∈ picks, 0 ≤ y ∧ y ≤ 255) {n : Nat} (hn : 1 ≤ n ∧ n ≤ 12) (s0 : Sto) (hsz : PSpec Tryz.prog 15 [.c (.int .u8 c)] (V.int n)) (hhd : PSpec Tryz.prog 42 [] (V.bool true))
 (hp : LSpec Tryz.prog 14 [V.int n, opsSV l] [] 0 (.tup [.p 0 10 0 0, .p 5 10 0 0]) (stoB s0 2 ++ rstoAt s0 5 7) 10) (h0 : MIOk n picks.length times.length ⟨0, 0, s0, fun _ => none, 0⟩) :
 { F : MI → Prop // (∀ y, picks.length ≤ 300 → times.length ≤ 30 → MIOk n picks.length times.length y → F y) → PSpec Tryz.prog 10 [.c (.int .u8 c), opsSV l, intsV times, u8sV picks] (V.bool true) } := by
 apply Subtype.mk
 intro hF
 show PSpec Tryz.prog 10 [.c (.int .u8 c), opsSV l, intsV times, u8sV picks] (V.bool true)
 have hml : (picks.map u8D).length = picks.length := List.length_map ..
 have hmh : (times.map intD).length = times.length := List.length_map ..
 refine pspec tab_ok mix Tryz.func10 (by kernel_rfl) rfl rfl ?_
 (refine go ?_; try exact True.intro)
 refine callB hhd (go ?_)
 refine callB hsz (go ?_)
 refine callL hp [] [] rfl (go ?_)
 rw [hmh]
 by_cases hg1 : (30 : Int) < times.length
 · rw [decide_eq_true hg1]
   (refine go ?_; try exact True.intro)
   exact .same rfl
 rw [decide_eq_false hg1]
 (refine go ?_; try exact True.intro)
 rw [hml]
 by_cases hg2 : (300 : Int) < picks.length
 · rw [decide_eq_true hg2]
   (refine go ?_; try exact True.intro)
   exact .same rfl
 rw [decide_eq_false hg2]
 have hL : picks.length ≤ 300 := by omega
 have hH : times.length ≤ 30 := by omega
 (refine go ?_; try exact True.intro)
 refine loopG0 tab_ok mix 40 92 [384, 389] [3, 4, 20, 21, 22, 23, 24, 25, 26, 27, 28, 29, 30, 31, 32] [2, 3, 9, 10, 11] [] (fun y => (12, .p 3 4 0 0) :: (13, .p 4 4 0 0) :: miT y) miH miF (MIOk n picks.length times.length) (fun y => picks.length - y.i) [(1, 386), (2, 391), (3, 1536), (4, 1600)] _ rfl h0 ?_ ?_ ?_
 · intro p hp
   rcases List.mem_append.1 hp with hp | hp
   · obtain ⟨i, hi, rfl⟩ := mem_famO.1 hp
     exact ⟨rfl, by dsimp only; omega, trivial⟩
   · obtain ⟨j, i, hj, _, hi, rfl⟩ := mem_famR.1 hp
     have := mul_in (k := 13) hj
     exact ⟨rfl, by dsimp only; omega, trivial⟩
 · exact fun y hy => hF y hL hH hy
 · (refine go ?_; try exact True.intro)
   refine BO.mk _ rfl (by rfl) (arrP_below _ (by decide) (by decide) (by decide)) (go ?_)
   refine BO.mk _ rfl (by rfl) (arrP_below _ (by decide) (by decide) (by decide)) (go ?_); try exact True.intro
theorem ibb_none {cs : Nat → Option IOp} {t : Nat} (h : cs t = none) : famO (ibb cs 384 389) 20 13 t = [(20, .dat 1 []), (21, .dat 1 []), (22, .dat 1 []), (23, .dat 1 []), (24, .dat 1 []), (25, .dat 1 []), (26, .dat 1 []), (27, .dat 1 []), (28, .dat 1 []), (29, .dat 1 []), (30, .dat 1 []), (31, .dat 1 []), (32, .dat 1 [])] := by
 unfold famO ibb
 rw [h]
 rfl
theorem ibb_some {cs : Nat → Option IOp} {t : Nat} {o : IOp} (h : cs t = some o) : famO (ibb cs 384 389) 20 13 t = [(20, o.blkB 384 (fun x => 20 + x) 0), (21, o.blkB 384 (fun x => 20 + x) 1), (22, o.blkB 384 (fun x => 20 + x) 2), (23, o.blkB 384 (fun x => 20 + x) 3), (24, o.blkB 384 (fun x => 20 + x) 4), (25, o.blkB 384 (fun x => 20 + x) 5), (26, o.blkB 384 (fun x => 20 + x) 6), (27, o.blkB 384 (fun x => 20 + x) 7), (28, o.blkB 384 (fun x => 20 + x) 8), (29, o.blkB 384 (fun x => 20 + x) 9), (30, o.blkB 384 (fun x => 20 + x) 10), (31, o.blkB 384 (fun x => 20 + x) 11), (32, rI 389 o.th ⟨1, o.t, 0, 0, 0⟩ o.ri)] := by
 unfold famO ibb
 rw [h]
 rfl
theorem mi_sub {b : Nat} (hb : 92 ≤ b) {T : List V} (y : MI) {t : Nat} (hc : y.cur < 4) (ht : t < 4) (hT : ((namesOf T).all fun n => outN 20 (40 + 13 * 4) n && Nat.blt n b) = true) (hH : fixH 20 (40 + 13 * 4) b (miC y.s) = true) (hS : ([384, 389].all fun n => outN 20 (40 + 13 * 4) n && Nat.blt n b) = true) :
 Sub (Lt 0) ⟨tAt T, hAt (miH y ++ miF y), b, T.length⟩ ⟨tAt T, hAt (miH { y with cur := t } ++ miF { y with cur := t }), b, T.length⟩ := by
 refine fam_sub (k := 13) (m := 4) (eo := 20) (lo := 40) (ibb_bun y.cs 384 389) (by decide) (by decide) hb hS hc ht (A := miA y) (Hc := miC y.s) hT ?_ hH rfl
 intro p hp
 rcases List.mem_cons.1 hp with rfl | hp
 · exact ⟨rfl, by dsimp only; omega, arrP_below _ (by decide) hb (by decide), arrP_ren _ (by decide) (by decide)⟩
 · rw [List.mem_singleton] at hp
   subst hp
   exact ⟨rfl, by dsimp only; omega, arrP_below _ (by decide) hb (by decide), arrP_ren _ (by decide) (by decide)⟩
set_option maxHeartbeats 16000000 in
theorem mi_exit (c : Int) (l : List OpS) (times picks : List Int) (hpk : ∀ y ∈ picks, 0 ≤ y ∧ y ≤ 255) {n : Nat} (hn : 1 ≤ n ∧ n ≤ 12) (s0 : Sto) (hsz : PSpec Tryz.prog 15 [.c (.int .u8 c)] (V.int n)) (hhd : PSpec Tryz.prog 42 [] (V.bool true))
 (hp : LSpec Tryz.prog 14 [V.int n, opsSV l] [] 0 (.tup [.p 0 10 0 0, .p 5 10 0 0]) (stoB s0 2 ++ rstoAt s0 5 7) 10) (h0 : MIOk n picks.length times.length ⟨0, 0, s0, fun _ => none, 0⟩) (hL : picks.length ≤ 300) (hH : times.length ≤ 30) {y : MI} (hy : MIOk n picks.length times.length y) (u : ¬ y.i < picks.length) :
 (mi_def c l times picks hpk hn s0 hsz hhd hp h0).1 y := by
 have hml : (picks.map u8D).length = picks.length := List.length_map ..
 have hi := hy.i
 obtain ⟨S, A, hci⟩ := hy.ci
 have hidl := hci.sb.idle_len
 have hn12 := hn.2
 refine RoundG.mk y _ _ Sub.refl rfl (fam_shut (k := 13) (m := 4) (lo := 40) (ibb_bun _ 384 389) (by decide) (by decide)) (by rfl) (go ?_)
 rw [hml]
 rw [decide_eq_false (show ¬ (y.i : Int) < picks.length by omega)]
 (refine go ?_; try exact True.intro)
 refine callL (alikeC hci.sb.shown (by omega)) [some 384, some 385, some 1, some 387, some 388, some 389, some 390, some 2, some 392, some 393] [] rfl (go ?_)
 exact .same rfl
theorem left_done {o : IOp} (h : o.done = true) : o.left = none := by
 unfold IOp.done at h
 unfold IOp.left
 split at h
 · next e => rw [e]
 · cases h
theorem left_run {o : IOp} (h : o.done = false) : o.left = some o := by
 unfold IOp.done at h
 unfold IOp.left
 split
 · next e => rw [e] at h; cases h
 · rfl
theorem eqlI (e h : Int) : PSpec Tryz.prog 39 [Res.v ⟨e, h, false, []⟩, Res.v ⟨e, h, false, []⟩] (V.bool true) := by
 have h := refEqualC ⟨e, h, false, []⟩ ⟨e, h, false, []⟩ (by show 0 < 9223372036854775807; decide)
 rw [decide_eq_true rfl] at h
 exact h
set_option maxHeartbeats 16000000 in
theorem mi_some (c : Int) (l : List OpS) (times picks : List Int) (hpk : ∀ y ∈ picks, 0 ≤ y ∧ y ≤ 255) {n : Nat} (hn : 1 ≤ n ∧ n ≤ 12) (s0 : Sto) (hsz : PSpec Tryz.prog 15 [.c (.int .u8 c)] (V.int n)) (hhd : PSpec Tryz.prog 42 [] (V.bool true))
 (hp : LSpec Tryz.prog 14 [V.int n, opsSV l] [] 0 (.tup [.p 0 10 0 0, .p 5 10 0 0]) (stoB s0 2 ++ rstoAt s0 5 7) 10) (h0 : MIOk n picks.length times.length ⟨0, 0, s0, fun _ => none, 0⟩) (hL : picks.length ≤ 300) (hH : times.length ≤ 30) {y : MI} (hy : MIOk n picks.length times.length y) (u : y.i < picks.length) {p : Int} (hpp : picks[y.i]? = some p) (pb1 : 0 ≤ p) (pb2 : p ≤ 255) {t : Nat} (ht : p.tmod 4 = (t : Int)) (ht4 : t < 4) {o : IOp} (ho : y.cs t = some o) :
 (mi_def c l times picks hpk hn s0 hsz hhd hp h0).1 y := by
 have hml : (picks.map u8D).length = picks.length := List.length_map ..
 have hmh : (times.map intD).length = times.length := List.length_map ..
 have hi := hy.i
 obtain ⟨S, A, hci⟩ := hy.ci
 obtain ⟨hok, hth⟩ := hci.ops t o ht4 ho
 have a1 := iStepC hci.sb (by omega) hci.thr hok
 have a2 := rIStepC hci.sb (by omega) hci.thr hok ⟨1, o.t, 0, 0, 0⟩ rfl
 obtain ⟨S', A', hci'⟩ := hci.step (by omega) ht4 ho
 have hth' : (o.step y.s).1.th = o.th ∧ (o.step y.s).1.t = o.t := by
  obtain ⟨_, _, _, _, _, _, b5, b6⟩ := IOp.step_ok hci.sb (by omega) hci.thr hok
  exact ⟨b5, b6⟩
 obtain ⟨o1, s1, hr⟩ : ∃ o1 s1, o.step y.s = (o1, s1) := ⟨_, _, rfl⟩
 rw [hr] at a1 a2 hci' hth'
 dsimp only at a1 a2 hci' hth'
 refine RoundG.mk { y with cur := t } _ _ (mi_sub (by decide) y hy.cur ht4 rfl rfl rfl) (congrArg (fun E => hAt (E ++ _)) (ibb_some ho)) (fam_shut (k := 13) (m := 4) (lo := 40) (ibb_bun _ 384 389) (by decide) (by decide)) (by rfl) (go ?_)
 rw [hml]
 rw [decide_eq_true (show (y.i : Int) < picks.length by omega)]
 (refine go ?_; try exact True.intro)
 refine idxB hpp (go ?_)
 rw [ht]
 (refine go ?_; try exact True.intro)
 refine atB ht4 (go ?_)
 refine optK_eq (arr_some ho ht4 rfl rfl) (go ?_)
 refine atB ht4 (go ?_)
 refine optK_eq (arr_some ho ht4 rfl rfl) (go ?_)
 refine callO a1 [some 20, some 21, some 22, some 23, some 24, some 25, some 26, some 27, some 28, some 29, some 30, some 31, some 384, some 385, some 1, some 387, some 388] [] _ _ _ (iB0_at (ν := fun x => 20 + x) o y.s (by decide) rfl rfl rfl rfl rfl) (iB1_at (ν := fun x => match x with | 0 => 20 | x => 2944 + x) o1 s1 rfl (by decide) rfl rfl rfl rfl rfl) rfl rfl (go ?_)
 refine atB ht4 (go ?_)
 refine optK_eq (arr_some ho ht4 rfl rfl) (go ?_)
 refine callL a2 [some 32, some 389, some 390, some 2, some 392, some 393] [] rfl (go ?_)
 rw [show (!(o1.done == o1.done)) = false by simp]
 (refine go ?_; try exact True.intro)
 refine atB ht4 (go ?_)
 refine optK_eq (arr_some ho ht4 rfl rfl) (go ?_)
 refine dcallRO (iEffectC o1 s1) [some 20, some 2945, some 2946, some 2947, some 2948, some 2949, some 2950, some 2951, some 2952, some 2953, some 2954, some 2955, some 384, some 385, some 2944, some 387, some 388] _ _ (iB0_at (ν := fun x => match x with | 0 => 20 | x => 2944 + x) o1 s1 (by decide) rfl rfl rfl rfl rfl) rfl (go ?_)
 refine atB ht4 (go ?_)
 refine optK_eq (arr_some ho ht4 rfl rfl) (go ?_)
 rw [show (!(o1.eff == o1.ri.pt)) = false by simp [IOp.ri]]
 (refine go ?_; try exact True.intro)
 refine atB ht4 (go ?_)
 refine optK_eq (arr_some ho ht4 rfl rfl) (go ?_)
 refine dcallRO (iBlockedC o1 s1) [some 20, some 2945, some 2946, some 2947, some 2948, some 2949, some 2950, some 2951, some 2952, some 2953, some 2954, some 2955, some 384, some 385, some 2944, some 387, some 388] _ _ (iB0_at (ν := fun x => match x with | 0 => 20 | x => 2944 + x) o1 s1 (by decide) rfl rfl rfl rfl rfl) rfl (go ?_)
 refine atB ht4 (go ?_)
 refine optK_eq (arr_some ho ht4 rfl rfl) (go ?_)
 rw [show (!(o1.blk == o1.ri.wt)) = false by simp [IOp.ri]]
 (refine go ?_; try exact True.intro)
 refine atB ht4 (go ?_)
 refine optK_eq (arr_some ho ht4 rfl rfl) (go ?_)
 refine dcallRO (iResultC o1 s1) [some 20, some 2945, some 2946, some 2947, some 2948, some 2949, some 2950, some 2951, some 2952, some 2953, some 2954, some 2955, some 384, some 385, some 2944, some 387, some 388] _ _ (iB0_at (ν := fun x => match x with | 0 => 20 | x => 2944 + x) o1 s1 (by decide) rfl rfl rfl rfl rfl) rfl (go ?_)
 refine atB ht4 (go ?_)
 refine optK_eq (arr_some ho ht4 rfl rfl) (go ?_)
 refine dcallR (rIResultC o1 o.th ⟨1, o.t, 0, 0, 0⟩) [some 32, some 389] rfl rfl (go ?_)
 refine dcallC (eqlI o1.re o1.rh) (go ?_)
 rcases Bool.eq_false_or_eq_true o1.done with hd | hd
 · rw [hd]
   (refine go ?_; try exact True.intro)
   refine atB ht4 (go ?_)
   refine okK_eq (okPut ht4 rfl) (go ?_)
   refine listK_eq (arr_put ht4 rfl _) (go ?_)
   refine atB ht4 (go ?_)
   refine okK_eq (okPut ht4 rfl) (go ?_)
   refine listK_eq (arr_put ht4 rfl _) (go ?_)
   refine wrB (by show -9223372036854775808 ≤ (y.i : Int) + 1 ∧ (y.i : Int) + 1 ≤ 9223372036854775807; omega) (go ?_)
   rw [left_done hd] at hci'
   refine .mk [(1, 2944), (2, 3264)] ⟨y.i + 1, y.nx, s1, upd y.cs t none, t⟩ [(20, .dat 1 []), (21, .dat 1 []), (22, .dat 1 []), (23, .dat 1 []), (24, .dat 1 []), (25, .dat 1 []), (26, .dat 1 []), (27, .dat 1 []), (28, .dat 1 []), (29, .dat 1 []), (30, .dat 1 []), (31, .dat 1 []), (32, .dat 1 [])] ⟨u, hy.nx, ht4, S', A', hci'⟩ (by show picks.length - (y.i + 1) < picks.length - y.i; omega) (by unfold miF; dsimp only; rw [famR_upd, ibb_none (upd_same ..)]) (go ?_)
   refine BO.mk _ rfl (arr_made rfl (by decide) rfl) (arrP_below _ (by decide) (by decide) (by decide)) (go ?_)
   refine BO.mk _ rfl (arr_made rfl (by decide) rfl) (arrP_below _ (by decide) (by decide) (by decide)) (go ?_)
   iterate 13 (refine BO.no rfl trivial ?_; (refine go ?_; try exact True.intro))
 · rw [hd]
   (refine go ?_; try exact True.intro)
   refine wrB (by show -9223372036854775808 ≤ (y.i : Int) + 1 ∧ (y.i : Int) + 1 ≤ 9223372036854775807; omega) (go ?_)
   rw [left_run hd] at hci'
   refine .mk [(1, 2944), (2, 3264), (21, 2945), (22, 2946), (23, 2947), (24, 2948), (25, 2949), (26, 2950), (27, 2951), (28, 2952), (29, 2953), (30, 2954), (31, 2955)] ⟨y.i + 1, y.nx, s1, upd y.cs t (some o1), t⟩ [(20, o1.blkB 384 (fun x => 20 + x) 0), (21, o1.blkB 384 (fun x => 20 + x) 1), (22, o1.blkB 384 (fun x => 20 + x) 2), (23, o1.blkB 384 (fun x => 20 + x) 3), (24, o1.blkB 384 (fun x => 20 + x) 4), (25, o1.blkB 384 (fun x => 20 + x) 5), (26, o1.blkB 384 (fun x => 20 + x) 6), (27, o1.blkB 384 (fun x => 20 + x) 7), (28, o1.blkB 384 (fun x => 20 + x) 8), (29, o1.blkB 384 (fun x => 20 + x) 9), (30, o1.blkB 384 (fun x => 20 + x) 10), (31, o1.blkB 384 (fun x => 20 + x) 11), (32, rI 389 o1.th ⟨1, o1.t, 0, 0, 0⟩ o1.ri)] ⟨u, hy.nx, ht4, S', A', hci'⟩ (by show picks.length - (y.i + 1) < picks.length - y.i; omega) (by unfold miF; dsimp only; rw [famR_upd, ibb_some (upd_same ..)]) (go ?_)
   refine BO.mk _ rfl (arr_kept rfl (by decide) ho rfl) (arrP_below _ (by decide) (by decide) (by decide)) (go ?_)
   refine BO.mk _ rfl (arr_kept rfl (by decide) ho rfl) (arrP_below _ (by decide) (by decide) (by decide)) (go ?_)
   iterate 12 (refine boBlk (o := o1) (st := 384) (ν := fun x => 20 + x) (fun x => match x with | 0 => 20 | x => 2944 + x) ?_ (by rfl) (by rfl) (by decide) (by decide) (by decide); (refine go ?_; try exact True.intro))
   rw [hth'.1, hth'.2]
   refine boRI ?_ (by rfl) (by rfl) (by decide)
   (refine go ?_; try exact True.intro)
end Go.Proofs.YtcffiehcdadimaaGreat.Abs
