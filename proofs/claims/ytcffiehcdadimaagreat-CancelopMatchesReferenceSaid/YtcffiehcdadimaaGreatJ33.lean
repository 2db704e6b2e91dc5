/- Laws of cancellations: four threads that cancel, beside the reference: the walk. Printed by tools/gen33.py. -/
import Derived.Test.YtcffiehcdadimaaGreatJ32
namespace Go.Proofs.YtcffiehcdadimaaGreat.Abs
open Go.Proofs
set_option maxRecDepth 10000
set_option linter.unusedSimpArgs false
set_option linter.unusedVariables false
def mrT : Mrs → List (Nat × V) := fun y => match y with
  | ⟨i, nx, s, o0, o1, o2, o3⟩ => [(15, V.int nx), (16, V.int i)]
def mrB (s : Sto) (o0 o1 o2 o3 : Slo) : List (Nat × B) :=
  stoAt s 512 1 ++ rstoAt s 517 2 ++ [(3, .rows 4 [[ptrO o0 10 10, ptrO o1 11 10, ptrO o2 12 10, ptrO o3 13 10]]), (4, .rows 4 [[ptrO o0 14 15, ptrO o1 15 15, ptrO o2 16 15, ptrO o3 17 15]]),
    (10, oblB o0 512), (11, oblB o1 512), (12, oblB o2 512), (13, oblB o3 512), (14, roblB o0 517), (15, roblB o1 517), (16, roblB o2 517), (17, roblB o3 517)]
def mrH : Mrs → List (Nat × B) := fun y => match y with
  | ⟨i, nx, s, o0, o1, o2, o3⟩ => mrB s o0 o1 o2 o3
theorem cNew4 (s : Sto) (h : Int) (t : Nat) : LSpec Tryz.prog 19 [.p 0 10 0 0, V.int t, .agg [V.int 2, V.int 0, V.int h, V.int 0, V.int 0]] (stoB s 2) 5 (.p 5 10 0 0) (stoB s 2 ++ [(5, copR ⟨t, h, 0, 0, false, false⟩ 0)]) 6 := cNewC s t h 2 0 0 0
theorem rcNew4 (s : Sto) (h : Int) (t : Nat) : LSpec Tryz.prog 37 [.p 0 10 0 0, V.int t, .agg [V.int 2, V.int 0, V.int h, V.int 0, V.int 0]] (rstoB s 2) 5 (.p 5 15 0 0) (rstoB s 2 ++ [(5, rcopR ⟨t, h, 0, 0, false, false⟩ 0 0)]) 6 := rcNewC s t h
theorem eqlNC (d : Bool) : PSpec Tryz.prog 39 [Res.v ⟨0, 0, d, []⟩, Res.v ⟨0, 0, d, []⟩] (V.bool true) := by
  have h := refEqualC ⟨0, 0, d, []⟩ ⟨0, 0, d, []⟩ (by show 0 < 9223372036854775807; decide)
  rw [decide_eq_true rfl] at h
  exact h
theorem pick5 {y : Int} (hy : 0 ≤ y ∧ y ≤ 255) : ∃ t : Nat, y.tmod 5 = t ∧ t < 5 := by
  have h1 := Int.tmod_nonneg (b := 5) hy.1
  have h2 := (tmod_bounds y 5 (by omega)).2
  exact ⟨(y.tmod 5).toNat, by omega, by omega⟩

noncomputable def mr_def (c : Int) (l : List OpS) (handles picks : List Int) (hpk : ∀ y ∈ picks, 0 ≤ y ∧ y ≤ 255) {n : Nat} (hn : 1 ≤ n ∧ n ≤ 12) (s0 : Sto) (S : List Item) (hsz : PSpec Tryz.prog 15 [.c (.int .u8 c)] (V.int n))
    (hp : LSpec Tryz.prog 14 [V.int n, opsSV l] [] 0 (.tup [.p 0 10 0 0, .p 5 10 0 0]) (stoB s0 2 ++ rstoAt s0 5 7) 10) (h0 : MrOk n picks.length handles.length S ⟨0, 0, s0, none, none, none, none⟩) :
    { F : Mrs → Prop // (∀ y, picks.length ≤ 200 → handles.length ≤ 30 → MrOk n picks.length handles.length S y → F y) → PSpec Tryz.prog 7 [.c (.int .u8 c), opsSV l, intsV handles, u8sV picks] (V.bool true) } := by
  apply Subtype.mk
  intro hF
  show PSpec Tryz.prog 7 [.c (.int .u8 c), opsSV l, intsV handles, u8sV picks] (V.bool true)
  have hml : (picks.map u8D).length = picks.length := List.length_map ..
  have hmh : (handles.map intD).length = handles.length := List.length_map ..
  refine pspec tab_ok mix Tryz.func7 (by kernel_rfl) rfl rfl ?_
  (refine go ?_; try exact True.intro)
  refine callB head13C ?_
  (refine go ?_; try exact True.intro)
  refine callB hsz ?_
  (refine go ?_; try exact True.intro)
  refine callL hp [] [] rfl ?_
  (refine go ?_; try exact True.intro)
  rw [hmh]
  by_cases hg1 : (30 : Int) < handles.length
  · rw [decide_eq_true hg1]
    (refine go ?_; try exact True.intro)
    exact .same rfl
  rw [decide_eq_false hg1]
  (refine go ?_; try exact True.intro)
  rw [hml]
  by_cases hg2 : (200 : Int) < picks.length
  · rw [decide_eq_true hg2]
    (refine go ?_; try exact True.intro)
    exact .same rfl
  rw [decide_eq_false hg2]
  have hL : picks.length ≤ 200 := by omega
  have hH : handles.length ≤ 30 := by omega
  (refine go ?_; try exact True.intro)
  refine loopO tab_ok mix [3, 4, 10, 11, 12, 13, 14, 15, 16, 17] [2, 3, 9, 10, 11, 12] [] (fun y => (13, .p 3 4 0 0) :: (14, .p 4 4 0 0) :: mrT y) mrH (MrOk n picks.length handles.length S) (fun y => picks.length - y.i) [(1, 514), (2, 519), (3, 1664), (4, 1728)] _ rfl h0 (by
    (refine go ?_; try exact True.intro)
    refine boArr ?_
    (refine go ?_; try exact True.intro)
    refine boArr ?_
    (refine go ?_; try exact True.intro)
    iterate 8 (refine boNo ?_; (refine go ?_; try exact True.intro))) ?_
  exact fun y hy => hF y hL hH hy

set_option maxHeartbeats 16000000 in
theorem mr_exit (c : Int) (l : List OpS) (handles picks : List Int) (hpk : ∀ y ∈ picks, 0 ≤ y ∧ y ≤ 255) {n : Nat} (hn : 1 ≤ n ∧ n ≤ 12) (s0 : Sto) (S : List Item) (hsz : PSpec Tryz.prog 15 [.c (.int .u8 c)] (V.int n))
    (hp : LSpec Tryz.prog 14 [V.int n, opsSV l] [] 0 (.tup [.p 0 10 0 0, .p 5 10 0 0]) (stoB s0 2 ++ rstoAt s0 5 7) 10) (h0 : MrOk n picks.length handles.length S ⟨0, 0, s0, none, none, none, none⟩) (hL : picks.length ≤ 200) (hH : handles.length ≤ 30) {i nx : Nat} {s : Sto} {o0 o1 o2 o3 : Slo} (hy : MrOk n picks.length handles.length S ⟨i, nx, s, o0, o1, o2, o3⟩) (u : ¬ i < picks.length) :
    (mr_def c l handles picks hpk hn s0 S hsz hp h0).1 ⟨i, nx, s, o0, o1, o2, o3⟩ := by
  have hml : (picks.map u8D).length = picks.length := List.length_map ..
  have hmh : (handles.map intD).length = handles.length := List.length_map ..
  have hi : i ≤ picks.length := hy.i
  have hnx : nx ≤ handles.length := hy.nx
  have hwds : Wds s 967 := hy.wds
  have hlen : s.slots.length = n := hy.len
  have hlog : s.m.log.length ≤ 2420 + i := hy.log
  (refine go ?_; try exact True.intro)
  rw [hml]
  rw [decide_eq_false (show ¬ (i : Int) < picks.length by omega)]
  (refine go ?_; try exact True.intro)
  refine callL (alikeC hy.shown hy.idle) [some 512, some 513, some 1, some 515, some 516, some 517, some 518, some 2, some 520, some 521] [] rfl ?_
  (refine go ?_; try exact True.intro)
  exact .same rfl

set_option maxHeartbeats 16000000 in
theorem mr_word (c : Int) (l : List OpS) (handles picks : List Int) (hpk : ∀ y ∈ picks, 0 ≤ y ∧ y ≤ 255) {n : Nat} (hn : 1 ≤ n ∧ n ≤ 12) (s0 : Sto) (S : List Item) (hsz : PSpec Tryz.prog 15 [.c (.int .u8 c)] (V.int n))
    (hp : LSpec Tryz.prog 14 [V.int n, opsSV l] [] 0 (.tup [.p 0 10 0 0, .p 5 10 0 0]) (stoB s0 2 ++ rstoAt s0 5 7) 10) (h0 : MrOk n picks.length handles.length S ⟨0, 0, s0, none, none, none, none⟩) (hL : picks.length ≤ 200) (hH : handles.length ≤ 30) {i nx : Nat} {s : Sto} {o0 o1 o2 o3 : Slo} (hy : MrOk n picks.length handles.length S ⟨i, nx, s, o0, o1, o2, o3⟩) (u : i < picks.length) {p : Int} (hpp : picks[i]? = some p) (pb1 : 0 ≤ p) (pb2 : p ≤ 255) (ht : p.tmod 5 = ((4 : Nat) : Int)) :
    (mr_def c l handles picks hpk hn s0 S hsz hp h0).1 ⟨i, nx, s, o0, o1, o2, o3⟩ := by
  have hml : (picks.map u8D).length = picks.length := List.length_map ..
  have hmh : (handles.map intD).length = handles.length := List.length_map ..
  have hi : i ≤ picks.length := hy.i
  have hnx : nx ≤ handles.length := hy.nx
  have hwds : Wds s 967 := hy.wds
  have hlen : s.slots.length = n := hy.len
  have hlog : s.m.log.length ≤ 2420 + i := hy.log
  (refine go ?_; try exact True.intro)
  rw [hml]
  rw [decide_eq_true (show (i : Int) < picks.length by omega)]
  (refine go ?_; try exact True.intro)
  refine idxB hpp ?_
  (refine go ?_; try exact True.intro)
  rw [ht]
  (refine go ?_; try exact True.intro)
  refine idxB hpp ?_
  (refine go ?_; try exact True.intro)
  have hq : p.tdiv 5 = p / 5 := Int.tdiv_eq_ediv_of_nonneg pb1
  rw [hq]
  refine wrB (by omega) ?_
  (refine go ?_; try exact True.intro)
  obtain ⟨k, hk, hkn⟩ : ∃ k : Nat, (p / 5).tmod n = (k : Int) ∧ k < n := by
    have h1 := Int.tmod_nonneg (a := p / 5) (b := (n : Int)) (by omega)
    have h2 := (tmod_bounds (p / 5) n (by omega)).2
    exact ⟨((p / 5).tmod n).toNat, by omega, by omega⟩
  rw [hk]
  (refine go ?_; try exact True.intro)
  refine callL (memoryC s) [some 512, some 513, some 1, some 515, some 516] [] rfl ?_
  (refine go ?_; try exact True.intro)
  have hwl := hwds.lt
  have hwk := hwds.wd k (by omega)
  rw [show (1 + (k : Int)) = ((k + 1 : Nat) : Int) by omega]
  refine callL (wordAtC s.m (k + 1) (by omega) hwds.fits.mem) [some 513, some 1, some 515, some 516] [] rfl ?_
  (refine go ?_; try exact True.intro)
  refine callB (rGenC (s.m.word (k + 1)) (by omega)) ?_
  (refine go ?_; try exact True.intro)
  refine callB (rStateC (s.m.word (k + 1)) (by omega)) ?_
  (refine go ?_; try exact True.intro)
  rw [show (s.m.word (k + 1) % 4 + 1).tmod 4 = (s.m.word (k + 1) % 4 + 1) % 4 from Int.tmod_eq_emod_of_nonneg (by omega)]
  refine callB (rWordC (s.m.word (k + 1) / 4) ((s.m.word (k + 1) % 4 + 1) % 4) ⟨⟨by omega, by omega⟩, by omega⟩) ?_
  (refine go ?_; try exact True.intro)
  have hset := hy.set hL u hkn
  have st1 := storeC s.m 9 (k + 1) (4 * (s.m.word (k + 1) / 4) + (s.m.word (k + 1) % 4 + 1) % 4) (by omega) hwds.fits.mem
  have st2 := rsSetC s 9 (k + 1) (4 * (s.m.word (k + 1) / 4) + (s.m.word (k + 1) % 4 + 1) % 4) (by omega) hwds.fits.mem
  dsimp only at hset
  rw [show s.m.put 9 4 (k + 1) (4 * (s.m.word (k + 1) / 4) + (s.m.word (k + 1) % 4 + 1) % 4) true = s.m.store 9 (k + 1) (4 * (s.m.word (k + 1) / 4) + (s.m.word (k + 1) % 4 + 1) % 4) from rfl] at hset
  generalize 4 * (s.m.word (k + 1) / 4) + (s.m.word (k + 1) % 4 + 1) % 4 = v at *
  generalize s.m.store 9 (k + 1) v = m1 at *
  refine callL (memoryC s) [some 512, some 513, some 1, some 515, some 516] [] rfl ?_
  (refine go ?_; try exact True.intro)
  refine callL st1 [some 513, some 1, some 515, some 516] [] rfl ?_
  (refine go ?_; try exact True.intro)
  refine callL st2 [some 517, some 518, some 2, some 520, some 521] [] rfl ?_
  (refine go ?_; try exact True.intro)
  refine .mk [(1, 4480), (2, 4736)] ⟨i + 1, nx, { s with m := m1 }, o0, o1, o2, o3⟩ hset (by show picks.length - (i + 1) < picks.length - i; omega) ?_
  (refine go ?_; try exact True.intro)
  refine boArr ?_
  (refine go ?_; try exact True.intro)
  refine boArr ?_
  (refine go ?_; try exact True.intro)
  refine boOp ?_
  (refine go ?_; try exact True.intro)
  refine boOp ?_
  (refine go ?_; try exact True.intro)
  refine boOp ?_
  (refine go ?_; try exact True.intro)
  refine boOp ?_
  (refine go ?_; try exact True.intro)
  refine boRop ?_
  (refine go ?_; try exact True.intro)
  refine boRop ?_
  (refine go ?_; try exact True.intro)
  refine boRop ?_
  (refine go ?_; try exact True.intro)
  refine boRop ?_
  (refine go ?_; try exact True.intro)

set_option maxHeartbeats 16000000 in
theorem mr_none0 (c : Int) (l : List OpS) (handles picks : List Int) (hpk : ∀ y ∈ picks, 0 ≤ y ∧ y ≤ 255) {n : Nat} (hn : 1 ≤ n ∧ n ≤ 12) (s0 : Sto) (S : List Item) (hsz : PSpec Tryz.prog 15 [.c (.int .u8 c)] (V.int n))
    (hp : LSpec Tryz.prog 14 [V.int n, opsSV l] [] 0 (.tup [.p 0 10 0 0, .p 5 10 0 0]) (stoB s0 2 ++ rstoAt s0 5 7) 10) (h0 : MrOk n picks.length handles.length S ⟨0, 0, s0, none, none, none, none⟩) (hL : picks.length ≤ 200) (hH : handles.length ≤ 30) {i nx : Nat} {s : Sto} {o1 o2 o3 : Slo} (hy : MrOk n picks.length handles.length S ⟨i, nx, s, none, o1, o2, o3⟩) (u : i < picks.length) {p : Int} (hpp : picks[i]? = some p) (pb1 : 0 ≤ p) (pb2 : p ≤ 255) (ht : p.tmod 5 = ((0 : Nat) : Int)) :
    (mr_def c l handles picks hpk hn s0 S hsz hp h0).1 ⟨i, nx, s, none, o1, o2, o3⟩ := by
  have hml : (picks.map u8D).length = picks.length := List.length_map ..
  have hmh : (handles.map intD).length = handles.length := List.length_map ..
  have hi : i ≤ picks.length := hy.i
  have hnx : nx ≤ handles.length := hy.nx
  have hwds : Wds s 967 := hy.wds
  have hlen : s.slots.length = n := hy.len
  have hlog : s.m.log.length ≤ 2420 + i := hy.log
  (refine go ?_; try exact True.intro)
  rw [hml]
  rw [decide_eq_true (show (i : Int) < picks.length by omega)]
  (refine go ?_; try exact True.intro)
  refine idxB hpp ?_
  (refine go ?_; try exact True.intro)
  rw [ht]
  (refine go ?_; try exact True.intro)
  rw [hmh]
  by_cases v : nx < handles.length
  case neg =>
    rw [decide_eq_true (show (handles.length : Int) ≤ nx by omega)]
    (refine go ?_; try exact True.intro)
    refine .mk [] ⟨i + 1, nx, s, none, o1, o2, o3⟩ ⟨u, hnx, hwds, hy.len, by show s.m.log.length ≤ 2420 + (i + 1); omega, hy.shown, hy.idle, hy.k0, hy.k1, hy.k2, hy.k3⟩ (by show picks.length - (i + 1) < picks.length - i; omega) ?_
    (refine go ?_; try exact True.intro)
    refine boArr ?_
    (refine go ?_; try exact True.intro)
    refine boArr ?_
    (refine go ?_; try exact True.intro)
    refine boNo ?_
    (refine go ?_; try exact True.intro)
    refine boOp ?_
    (refine go ?_; try exact True.intro)
    refine boOp ?_
    (refine go ?_; try exact True.intro)
    refine boOp ?_
    (refine go ?_; try exact True.intro)
    refine boNo ?_
    (refine go ?_; try exact True.intro)
    refine boRop ?_
    (refine go ?_; try exact True.intro)
    refine boRop ?_
    (refine go ?_; try exact True.intro)
    refine boRop ?_
    (refine go ?_; try exact True.intro)
  rw [decide_eq_false (show ¬ (handles.length : Int) ≤ nx by omega)]
  obtain ⟨raw, hraw⟩ := get_lt v
  (refine go ?_; try exact True.intro)
  refine idxB hraw ?_
  (refine go ?_; try exact True.intro)
  refine callL (handleC s hwds (by have := hy.len; dsimp only at this; omega) raw) [some 512, some 513, some 1, some 515, some 516] [] rfl ?_
  generalize s.hndl raw = h
  (refine go ?_; try exact True.intro)
  refine callL (cNew4 s h 0) [some 512, some 513, some 1, some 515, some 516] [] rfl ?_
  (refine go ?_; try exact True.intro)
  refine callL (rcNew4 s h 0) [some 517, some 518, some 2, some 520, some 521] [] rfl ?_
  (refine go ?_; try exact True.intro)
  have hc : SloOk s (some (⟨((0 : Nat) : Int), h, 0, 0, false, false⟩, 0)) := SloOk.new _ _
  generalize hcc : (⟨((0 : Nat) : Int), h, 0, 0, false, false⟩ : COp) = cc at *
  obtain ⟨q1, q2, q3⟩ := hc _ rfl
  have a1 := cStepC cc s hwds q1
  have a2 := rcStepC cc 0 s hwds q1 q2 q3
  obtain ⟨m1, m2, m3, m4, m5, m6⟩ := mr_step hy hL u hc
  obtain ⟨c1, s1, hr⟩ : ∃ c1 s1, cStep cc s = (c1, s1) := ⟨_, _, rfl⟩
  have ef := cEffectC c1 s1
  have eb := cBlockedC c1 s1
  have er := cResultC c1 s1
  have rr := rcResultC c1 (rwN cc s 0)
  dsimp only at q1 q2 q3 m1 m2 m3 m4 m5 a1 a2
  rw [hr] at a1 a2 m1 m2 m3 m4 m5 m6
  dsimp only at a1 a2 m1 m2 m3 m4 m5 m6
  refine callL a1 [some 4288, some 512, some 513, some 1, some 515, some 516] [] rfl ?_
  (refine go ?_; try exact True.intro)
  refine callL a2 [some 4736, some 517, some 518, some 2, some 520, some 521] [] rfl ?_
  (refine go ?_; try exact True.intro)
  rw [show (!(decide (c1.ph = 2) == decide (c1.ph = 2))) = false by simp]
  (refine go ?_; try exact True.intro)
  refine dcallR ef [some 4288, some 512, some 513, some 5376, some 515, some 516] rfl rfl ?_
  (refine go ?_; try exact True.intro)
  rw [show (!(decide (c1.ph = 2) == decide (c1.ph = 2))) = false by simp]
  (refine go ?_; try exact True.intro)
  refine dcallR eb [some 4288, some 512, some 513, some 5376, some 515, some 516] rfl rfl ?_
  (refine go ?_; try exact True.intro)
  rw [show (!(c1.blk == c1.blk)) = false by simp]
  (refine go ?_; try exact True.intro)
  refine dcallR er [some 4288, some 512, some 513, some 5376, some 515, some 516] rfl rfl ?_
  (refine go ?_; try exact True.intro)
  refine dcallR rr [some 4736, some 517] rfl rfl ?_
  (refine go ?_; try exact True.intro)
  refine dcallC (eqlNC c1.done) ?_
  (refine go ?_; try exact True.intro)
  by_cases hph : c1.ph = 2
  · rw [decide_eq_true hph]
    (refine go ?_; try exact True.intro)
    refine .mk [(1, 5376), (2, 5696)] ⟨i + 1, (nx + 1), s1, none, o1, o2, o3⟩ ⟨u, v, m1, by show s1.slots.length = n; rw [m2]; exact hy.len, m3, m4, by show s1.idle.length < _; rw [m5]; exact hy.idle, SloOk.none, hy.k1.mono m2, hy.k2.mono m2, hy.k3.mono m2⟩ (by show picks.length - (i + 1) < picks.length - i; omega) ?_
    (refine go ?_; try exact True.intro)
    refine boArr ?_
    (refine go ?_; try exact True.intro)
    refine boArr ?_
    (refine go ?_; try exact True.intro)
    refine boNo ?_
    (refine go ?_; try exact True.intro)
    refine boOp ?_
    (refine go ?_; try exact True.intro)
    refine boOp ?_
    (refine go ?_; try exact True.intro)
    refine boOp ?_
    (refine go ?_; try exact True.intro)
    refine boNo ?_
    (refine go ?_; try exact True.intro)
    refine boRop ?_
    (refine go ?_; try exact True.intro)
    refine boRop ?_
    (refine go ?_; try exact True.intro)
    refine boRop ?_
    (refine go ?_; try exact True.intro)
  · rw [decide_eq_false hph]
    have hsn : sloN cc 0 s = some (c1, rwN cc s 0) := by unfold sloN; rw [hr, if_neg hph]
    rw [hsn] at m6
    (refine go ?_; try exact True.intro)
    refine .mk [(10, 4288), (14, 4736), (1, 5376), (2, 5696)] ⟨i + 1, (nx + 1), s1, (some (c1, rwN cc s 0)), o1, o2, o3⟩ ⟨u, v, m1, by show s1.slots.length = n; rw [m2]; exact hy.len, m3, m4, by show s1.idle.length < _; rw [m5]; exact hy.idle, m6, hy.k1.mono m2, hy.k2.mono m2, hy.k3.mono m2⟩ (by show picks.length - (i + 1) < picks.length - i; omega) ?_
    (refine go ?_; try exact True.intro)
    refine boArr ?_
    (refine go ?_; try exact True.intro)
    refine boArr ?_
    (refine go ?_; try exact True.intro)
    refine boOp (o := some (c1, rwN cc s 0)) (a := 512) ?_
    (refine go ?_; try exact True.intro)
    refine boOp ?_
    (refine go ?_; try exact True.intro)
    refine boOp ?_
    (refine go ?_; try exact True.intro)
    refine boOp ?_
    (refine go ?_; try exact True.intro)
    refine boRop (o := some (c1, rwN cc s 0)) (a := 517) (hB := congrArg (fun d => some (rcR 517 c1.th c1.h (decide (c1.ph = 1)) (rwN cc s 0) c1.done d c1.blk)) (decide_eq_false hph).symm) ?_
    (refine go ?_; try exact True.intro)
    refine boRop ?_
    (refine go ?_; try exact True.intro)
    refine boRop ?_
    (refine go ?_; try exact True.intro)
    refine boRop ?_
    (refine go ?_; try exact True.intro)

set_option maxHeartbeats 16000000 in
theorem mr_some0 (c : Int) (l : List OpS) (handles picks : List Int) (hpk : ∀ y ∈ picks, 0 ≤ y ∧ y ≤ 255) {n : Nat} (hn : 1 ≤ n ∧ n ≤ 12) (s0 : Sto) (S : List Item) (hsz : PSpec Tryz.prog 15 [.c (.int .u8 c)] (V.int n))
    (hp : LSpec Tryz.prog 14 [V.int n, opsSV l] [] 0 (.tup [.p 0 10 0 0, .p 5 10 0 0]) (stoB s0 2 ++ rstoAt s0 5 7) 10) (h0 : MrOk n picks.length handles.length S ⟨0, 0, s0, none, none, none, none⟩) (hL : picks.length ≤ 200) (hH : handles.length ≤ 30) {i nx : Nat} {s : Sto} {o1 o2 o3 : Slo} {c0 : COp} {rw' : Int} (hy : MrOk n picks.length handles.length S ⟨i, nx, s, (some (c0, rw')), o1, o2, o3⟩) (u : i < picks.length) {p : Int} (hpp : picks[i]? = some p) (pb1 : 0 ≤ p) (pb2 : p ≤ 255) (ht : p.tmod 5 = ((0 : Nat) : Int)) :
    (mr_def c l handles picks hpk hn s0 S hsz hp h0).1 ⟨i, nx, s, (some (c0, rw')), o1, o2, o3⟩ := by
  have hml : (picks.map u8D).length = picks.length := List.length_map ..
  have hmh : (handles.map intD).length = handles.length := List.length_map ..
  have hi : i ≤ picks.length := hy.i
  have hnx : nx ≤ handles.length := hy.nx
  have hwds : Wds s 967 := hy.wds
  have hlen : s.slots.length = n := hy.len
  have hlog : s.m.log.length ≤ 2420 + i := hy.log
  (refine go ?_; try exact True.intro)
  rw [hml]
  rw [decide_eq_true (show (i : Int) < picks.length by omega)]
  (refine go ?_; try exact True.intro)
  refine idxB hpp ?_
  (refine go ?_; try exact True.intro)
  rw [ht]
  have hc : SloOk s (some (c0, rw')) := hy.k0
  (refine go ?_; try exact True.intro)
  obtain ⟨q1, q2, q3⟩ := hc _ rfl
  have a1 := cStepC c0 s hwds q1
  have a2 := rcStepC c0 rw' s hwds q1 q2 q3
  obtain ⟨m1, m2, m3, m4, m5, m6⟩ := mr_step hy hL u hc
  obtain ⟨c1, s1, hr⟩ : ∃ c1 s1, cStep c0 s = (c1, s1) := ⟨_, _, rfl⟩
  have ef := cEffectC c1 s1
  have eb := cBlockedC c1 s1
  have er := cResultC c1 s1
  have rr := rcResultC c1 (rwN c0 s rw')
  dsimp only at q1 q2 q3 m1 m2 m3 m4 m5 a1 a2
  rw [hr] at a1 a2 m1 m2 m3 m4 m5 m6
  dsimp only at a1 a2 m1 m2 m3 m4 m5 m6
  refine callL a1 [some 10, some 512, some 513, some 1, some 515, some 516] [] rfl ?_
  (refine go ?_; try exact True.intro)
  refine callL a2 [some 14, some 517, some 518, some 2, some 520, some 521] [] rfl ?_
  (refine go ?_; try exact True.intro)
  rw [show (!(decide (c1.ph = 2) == decide (c1.ph = 2))) = false by simp]
  (refine go ?_; try exact True.intro)
  refine dcallR ef [some 10, some 512, some 513, some 3200, some 515, some 516] rfl rfl ?_
  (refine go ?_; try exact True.intro)
  rw [show (!(decide (c1.ph = 2) == decide (c1.ph = 2))) = false by simp]
  (refine go ?_; try exact True.intro)
  refine dcallR eb [some 10, some 512, some 513, some 3200, some 515, some 516] rfl rfl ?_
  (refine go ?_; try exact True.intro)
  rw [show (!(c1.blk == c1.blk)) = false by simp]
  (refine go ?_; try exact True.intro)
  refine dcallR er [some 10, some 512, some 513, some 3200, some 515, some 516] rfl rfl ?_
  (refine go ?_; try exact True.intro)
  refine dcallR rr [some 14, some 517] rfl rfl ?_
  (refine go ?_; try exact True.intro)
  refine dcallC (eqlNC c1.done) ?_
  (refine go ?_; try exact True.intro)
  by_cases hph : c1.ph = 2
  · rw [decide_eq_true hph]
    (refine go ?_; try exact True.intro)
    refine .mk [(1, 3200), (2, 3520)] ⟨i + 1, nx, s1, none, o1, o2, o3⟩ ⟨u, hnx, m1, by show s1.slots.length = n; rw [m2]; exact hy.len, m3, m4, by show s1.idle.length < _; rw [m5]; exact hy.idle, SloOk.none, hy.k1.mono m2, hy.k2.mono m2, hy.k3.mono m2⟩ (by show picks.length - (i + 1) < picks.length - i; omega) ?_
    (refine go ?_; try exact True.intro)
    refine boArr ?_
    (refine go ?_; try exact True.intro)
    refine boArr ?_
    (refine go ?_; try exact True.intro)
    refine boNo ?_
    (refine go ?_; try exact True.intro)
    refine boOp ?_
    (refine go ?_; try exact True.intro)
    refine boOp ?_
    (refine go ?_; try exact True.intro)
    refine boOp ?_
    (refine go ?_; try exact True.intro)
    refine boNo ?_
    (refine go ?_; try exact True.intro)
    refine boRop ?_
    (refine go ?_; try exact True.intro)
    refine boRop ?_
    (refine go ?_; try exact True.intro)
    refine boRop ?_
    (refine go ?_; try exact True.intro)
  · rw [decide_eq_false hph]
    have hsn : sloN c0 rw' s = some (c1, rwN c0 s rw') := by unfold sloN; rw [hr, if_neg hph]
    rw [hsn] at m6
    (refine go ?_; try exact True.intro)
    refine .mk [(1, 3200), (2, 3520)] ⟨i + 1, nx, s1, (some (c1, rwN c0 s rw')), o1, o2, o3⟩ ⟨u, hnx, m1, by show s1.slots.length = n; rw [m2]; exact hy.len, m3, m4, by show s1.idle.length < _; rw [m5]; exact hy.idle, m6, hy.k1.mono m2, hy.k2.mono m2, hy.k3.mono m2⟩ (by show picks.length - (i + 1) < picks.length - i; omega) ?_
    (refine go ?_; try exact True.intro)
    refine boArr ?_
    (refine go ?_; try exact True.intro)
    refine boArr ?_
    (refine go ?_; try exact True.intro)
    refine boOp (o := some (c1, rwN c0 s rw')) (a := 512) ?_
    (refine go ?_; try exact True.intro)
    refine boOp ?_
    (refine go ?_; try exact True.intro)
    refine boOp ?_
    (refine go ?_; try exact True.intro)
    refine boOp ?_
    (refine go ?_; try exact True.intro)
    refine boRop (o := some (c1, rwN c0 s rw')) (a := 517) (hB := congrArg (fun d => some (rcR 517 c1.th c1.h (decide (c1.ph = 1)) (rwN c0 s rw') c1.done d c1.blk)) (decide_eq_false hph).symm) ?_
    (refine go ?_; try exact True.intro)
    refine boRop ?_
    (refine go ?_; try exact True.intro)
    refine boRop ?_
    (refine go ?_; try exact True.intro)
    refine boRop ?_
    (refine go ?_; try exact True.intro)

set_option maxHeartbeats 16000000 in
theorem mr_none1 (c : Int) (l : List OpS) (handles picks : List Int) (hpk : ∀ y ∈ picks, 0 ≤ y ∧ y ≤ 255) {n : Nat} (hn : 1 ≤ n ∧ n ≤ 12) (s0 : Sto) (S : List Item) (hsz : PSpec Tryz.prog 15 [.c (.int .u8 c)] (V.int n))
    (hp : LSpec Tryz.prog 14 [V.int n, opsSV l] [] 0 (.tup [.p 0 10 0 0, .p 5 10 0 0]) (stoB s0 2 ++ rstoAt s0 5 7) 10) (h0 : MrOk n picks.length handles.length S ⟨0, 0, s0, none, none, none, none⟩) (hL : picks.length ≤ 200) (hH : handles.length ≤ 30) {i nx : Nat} {s : Sto} {o0 o2 o3 : Slo} (hy : MrOk n picks.length handles.length S ⟨i, nx, s, o0, none, o2, o3⟩) (u : i < picks.length) {p : Int} (hpp : picks[i]? = some p) (pb1 : 0 ≤ p) (pb2 : p ≤ 255) (ht : p.tmod 5 = ((1 : Nat) : Int)) :
    (mr_def c l handles picks hpk hn s0 S hsz hp h0).1 ⟨i, nx, s, o0, none, o2, o3⟩ := by
  have hml : (picks.map u8D).length = picks.length := List.length_map ..
  have hmh : (handles.map intD).length = handles.length := List.length_map ..
  have hi : i ≤ picks.length := hy.i
  have hnx : nx ≤ handles.length := hy.nx
  have hwds : Wds s 967 := hy.wds
  have hlen : s.slots.length = n := hy.len
  have hlog : s.m.log.length ≤ 2420 + i := hy.log
  (refine go ?_; try exact True.intro)
  rw [hml]
  rw [decide_eq_true (show (i : Int) < picks.length by omega)]
  (refine go ?_; try exact True.intro)
  refine idxB hpp ?_
  (refine go ?_; try exact True.intro)
  rw [ht]
  (refine go ?_; try exact True.intro)
  rw [hmh]
  by_cases v : nx < handles.length
  case neg =>
    rw [decide_eq_true (show (handles.length : Int) ≤ nx by omega)]
    (refine go ?_; try exact True.intro)
    refine .mk [] ⟨i + 1, nx, s, o0, none, o2, o3⟩ ⟨u, hnx, hwds, hy.len, by show s.m.log.length ≤ 2420 + (i + 1); omega, hy.shown, hy.idle, hy.k0, hy.k1, hy.k2, hy.k3⟩ (by show picks.length - (i + 1) < picks.length - i; omega) ?_
    (refine go ?_; try exact True.intro)
    refine boArr ?_
    (refine go ?_; try exact True.intro)
    refine boArr ?_
    (refine go ?_; try exact True.intro)
    refine boOp ?_
    (refine go ?_; try exact True.intro)
    refine boNo ?_
    (refine go ?_; try exact True.intro)
    refine boOp ?_
    (refine go ?_; try exact True.intro)
    refine boOp ?_
    (refine go ?_; try exact True.intro)
    refine boRop ?_
    (refine go ?_; try exact True.intro)
    refine boNo ?_
    (refine go ?_; try exact True.intro)
    refine boRop ?_
    (refine go ?_; try exact True.intro)
    refine boRop ?_
    (refine go ?_; try exact True.intro)
  rw [decide_eq_false (show ¬ (handles.length : Int) ≤ nx by omega)]
  obtain ⟨raw, hraw⟩ := get_lt v
  (refine go ?_; try exact True.intro)
  refine idxB hraw ?_
  (refine go ?_; try exact True.intro)
  refine callL (handleC s hwds (by have := hy.len; dsimp only at this; omega) raw) [some 512, some 513, some 1, some 515, some 516] [] rfl ?_
  generalize s.hndl raw = h
  (refine go ?_; try exact True.intro)
  refine callL (cNew4 s h 1) [some 512, some 513, some 1, some 515, some 516] [] rfl ?_
  (refine go ?_; try exact True.intro)
  refine callL (rcNew4 s h 1) [some 517, some 518, some 2, some 520, some 521] [] rfl ?_
  (refine go ?_; try exact True.intro)
  have hc : SloOk s (some (⟨((1 : Nat) : Int), h, 0, 0, false, false⟩, 0)) := SloOk.new _ _
  generalize hcc : (⟨((1 : Nat) : Int), h, 0, 0, false, false⟩ : COp) = cc at *
  obtain ⟨q1, q2, q3⟩ := hc _ rfl
  have a1 := cStepC cc s hwds q1
  have a2 := rcStepC cc 0 s hwds q1 q2 q3
  obtain ⟨m1, m2, m3, m4, m5, m6⟩ := mr_step hy hL u hc
  obtain ⟨c1, s1, hr⟩ : ∃ c1 s1, cStep cc s = (c1, s1) := ⟨_, _, rfl⟩
  have ef := cEffectC c1 s1
  have eb := cBlockedC c1 s1
  have er := cResultC c1 s1
  have rr := rcResultC c1 (rwN cc s 0)
  dsimp only at q1 q2 q3 m1 m2 m3 m4 m5 a1 a2
  rw [hr] at a1 a2 m1 m2 m3 m4 m5 m6
  dsimp only at a1 a2 m1 m2 m3 m4 m5 m6
  refine callL a1 [some 4288, some 512, some 513, some 1, some 515, some 516] [] rfl ?_
  (refine go ?_; try exact True.intro)
  refine callL a2 [some 4736, some 517, some 518, some 2, some 520, some 521] [] rfl ?_
  (refine go ?_; try exact True.intro)
  rw [show (!(decide (c1.ph = 2) == decide (c1.ph = 2))) = false by simp]
  (refine go ?_; try exact True.intro)
  refine dcallR ef [some 4288, some 512, some 513, some 5376, some 515, some 516] rfl rfl ?_
  (refine go ?_; try exact True.intro)
  rw [show (!(decide (c1.ph = 2) == decide (c1.ph = 2))) = false by simp]
  (refine go ?_; try exact True.intro)
  refine dcallR eb [some 4288, some 512, some 513, some 5376, some 515, some 516] rfl rfl ?_
  (refine go ?_; try exact True.intro)
  rw [show (!(c1.blk == c1.blk)) = false by simp]
  (refine go ?_; try exact True.intro)
  refine dcallR er [some 4288, some 512, some 513, some 5376, some 515, some 516] rfl rfl ?_
  (refine go ?_; try exact True.intro)
  refine dcallR rr [some 4736, some 517] rfl rfl ?_
  (refine go ?_; try exact True.intro)
  refine dcallC (eqlNC c1.done) ?_
  (refine go ?_; try exact True.intro)
  by_cases hph : c1.ph = 2
  · rw [decide_eq_true hph]
    (refine go ?_; try exact True.intro)
    refine .mk [(1, 5376), (2, 5696)] ⟨i + 1, (nx + 1), s1, o0, none, o2, o3⟩ ⟨u, v, m1, by show s1.slots.length = n; rw [m2]; exact hy.len, m3, m4, by show s1.idle.length < _; rw [m5]; exact hy.idle, hy.k0.mono m2, SloOk.none, hy.k2.mono m2, hy.k3.mono m2⟩ (by show picks.length - (i + 1) < picks.length - i; omega) ?_
    (refine go ?_; try exact True.intro)
    refine boArr ?_
    (refine go ?_; try exact True.intro)
    refine boArr ?_
    (refine go ?_; try exact True.intro)
    refine boOp ?_
    (refine go ?_; try exact True.intro)
    refine boNo ?_
    (refine go ?_; try exact True.intro)
    refine boOp ?_
    (refine go ?_; try exact True.intro)
    refine boOp ?_
    (refine go ?_; try exact True.intro)
    refine boRop ?_
    (refine go ?_; try exact True.intro)
    refine boNo ?_
    (refine go ?_; try exact True.intro)
    refine boRop ?_
    (refine go ?_; try exact True.intro)
    refine boRop ?_
    (refine go ?_; try exact True.intro)
  · rw [decide_eq_false hph]
    have hsn : sloN cc 0 s = some (c1, rwN cc s 0) := by unfold sloN; rw [hr, if_neg hph]
    rw [hsn] at m6
    (refine go ?_; try exact True.intro)
    refine .mk [(11, 4288), (15, 4736), (1, 5376), (2, 5696)] ⟨i + 1, (nx + 1), s1, o0, (some (c1, rwN cc s 0)), o2, o3⟩ ⟨u, v, m1, by show s1.slots.length = n; rw [m2]; exact hy.len, m3, m4, by show s1.idle.length < _; rw [m5]; exact hy.idle, hy.k0.mono m2, m6, hy.k2.mono m2, hy.k3.mono m2⟩ (by show picks.length - (i + 1) < picks.length - i; omega) ?_
    (refine go ?_; try exact True.intro)
    refine boArr ?_
    (refine go ?_; try exact True.intro)
    refine boArr ?_
    (refine go ?_; try exact True.intro)
    refine boOp ?_
    (refine go ?_; try exact True.intro)
    refine boOp (o := some (c1, rwN cc s 0)) (a := 512) ?_
    (refine go ?_; try exact True.intro)
    refine boOp ?_
    (refine go ?_; try exact True.intro)
    refine boOp ?_
    (refine go ?_; try exact True.intro)
    refine boRop ?_
    (refine go ?_; try exact True.intro)
    refine boRop (o := some (c1, rwN cc s 0)) (a := 517) (hB := congrArg (fun d => some (rcR 517 c1.th c1.h (decide (c1.ph = 1)) (rwN cc s 0) c1.done d c1.blk)) (decide_eq_false hph).symm) ?_
    (refine go ?_; try exact True.intro)
    refine boRop ?_
    (refine go ?_; try exact True.intro)
    refine boRop ?_
    (refine go ?_; try exact True.intro)

set_option maxHeartbeats 16000000 in
theorem mr_some1 (c : Int) (l : List OpS) (handles picks : List Int) (hpk : ∀ y ∈ picks, 0 ≤ y ∧ y ≤ 255) {n : Nat} (hn : 1 ≤ n ∧ n ≤ 12) (s0 : Sto) (S : List Item) (hsz : PSpec Tryz.prog 15 [.c (.int .u8 c)] (V.int n))
    (hp : LSpec Tryz.prog 14 [V.int n, opsSV l] [] 0 (.tup [.p 0 10 0 0, .p 5 10 0 0]) (stoB s0 2 ++ rstoAt s0 5 7) 10) (h0 : MrOk n picks.length handles.length S ⟨0, 0, s0, none, none, none, none⟩) (hL : picks.length ≤ 200) (hH : handles.length ≤ 30) {i nx : Nat} {s : Sto} {o0 o2 o3 : Slo} {c0 : COp} {rw' : Int} (hy : MrOk n picks.length handles.length S ⟨i, nx, s, o0, (some (c0, rw')), o2, o3⟩) (u : i < picks.length) {p : Int} (hpp : picks[i]? = some p) (pb1 : 0 ≤ p) (pb2 : p ≤ 255) (ht : p.tmod 5 = ((1 : Nat) : Int)) :
    (mr_def c l handles picks hpk hn s0 S hsz hp h0).1 ⟨i, nx, s, o0, (some (c0, rw')), o2, o3⟩ := by
  have hml : (picks.map u8D).length = picks.length := List.length_map ..
  have hmh : (handles.map intD).length = handles.length := List.length_map ..
  have hi : i ≤ picks.length := hy.i
  have hnx : nx ≤ handles.length := hy.nx
  have hwds : Wds s 967 := hy.wds
  have hlen : s.slots.length = n := hy.len
  have hlog : s.m.log.length ≤ 2420 + i := hy.log
  (refine go ?_; try exact True.intro)
  rw [hml]
  rw [decide_eq_true (show (i : Int) < picks.length by omega)]
  (refine go ?_; try exact True.intro)
  refine idxB hpp ?_
  (refine go ?_; try exact True.intro)
  rw [ht]
  have hc : SloOk s (some (c0, rw')) := hy.k1
  (refine go ?_; try exact True.intro)
  obtain ⟨q1, q2, q3⟩ := hc _ rfl
  have a1 := cStepC c0 s hwds q1
  have a2 := rcStepC c0 rw' s hwds q1 q2 q3
  obtain ⟨m1, m2, m3, m4, m5, m6⟩ := mr_step hy hL u hc
  obtain ⟨c1, s1, hr⟩ : ∃ c1 s1, cStep c0 s = (c1, s1) := ⟨_, _, rfl⟩
  have ef := cEffectC c1 s1
  have eb := cBlockedC c1 s1
  have er := cResultC c1 s1
  have rr := rcResultC c1 (rwN c0 s rw')
  dsimp only at q1 q2 q3 m1 m2 m3 m4 m5 a1 a2
  rw [hr] at a1 a2 m1 m2 m3 m4 m5 m6
  dsimp only at a1 a2 m1 m2 m3 m4 m5 m6
  refine callL a1 [some 11, some 512, some 513, some 1, some 515, some 516] [] rfl ?_
  (refine go ?_; try exact True.intro)
  refine callL a2 [some 15, some 517, some 518, some 2, some 520, some 521] [] rfl ?_
  (refine go ?_; try exact True.intro)
  rw [show (!(decide (c1.ph = 2) == decide (c1.ph = 2))) = false by simp]
  (refine go ?_; try exact True.intro)
  refine dcallR ef [some 11, some 512, some 513, some 3200, some 515, some 516] rfl rfl ?_
  (refine go ?_; try exact True.intro)
  rw [show (!(decide (c1.ph = 2) == decide (c1.ph = 2))) = false by simp]
  (refine go ?_; try exact True.intro)
  refine dcallR eb [some 11, some 512, some 513, some 3200, some 515, some 516] rfl rfl ?_
  (refine go ?_; try exact True.intro)
  rw [show (!(c1.blk == c1.blk)) = false by simp]
  (refine go ?_; try exact True.intro)
  refine dcallR er [some 11, some 512, some 513, some 3200, some 515, some 516] rfl rfl ?_
  (refine go ?_; try exact True.intro)
  refine dcallR rr [some 15, some 517] rfl rfl ?_
  (refine go ?_; try exact True.intro)
  refine dcallC (eqlNC c1.done) ?_
  (refine go ?_; try exact True.intro)
  by_cases hph : c1.ph = 2
  · rw [decide_eq_true hph]
    (refine go ?_; try exact True.intro)
    refine .mk [(1, 3200), (2, 3520)] ⟨i + 1, nx, s1, o0, none, o2, o3⟩ ⟨u, hnx, m1, by show s1.slots.length = n; rw [m2]; exact hy.len, m3, m4, by show s1.idle.length < _; rw [m5]; exact hy.idle, hy.k0.mono m2, SloOk.none, hy.k2.mono m2, hy.k3.mono m2⟩ (by show picks.length - (i + 1) < picks.length - i; omega) ?_
    (refine go ?_; try exact True.intro)
    refine boArr ?_
    (refine go ?_; try exact True.intro)
    refine boArr ?_
    (refine go ?_; try exact True.intro)
    refine boOp ?_
    (refine go ?_; try exact True.intro)
    refine boNo ?_
    (refine go ?_; try exact True.intro)
    refine boOp ?_
    (refine go ?_; try exact True.intro)
    refine boOp ?_
    (refine go ?_; try exact True.intro)
    refine boRop ?_
    (refine go ?_; try exact True.intro)
    refine boNo ?_
    (refine go ?_; try exact True.intro)
    refine boRop ?_
    (refine go ?_; try exact True.intro)
    refine boRop ?_
    (refine go ?_; try exact True.intro)
  · rw [decide_eq_false hph]
    have hsn : sloN c0 rw' s = some (c1, rwN c0 s rw') := by unfold sloN; rw [hr, if_neg hph]
    rw [hsn] at m6
    (refine go ?_; try exact True.intro)
    refine .mk [(1, 3200), (2, 3520)] ⟨i + 1, nx, s1, o0, (some (c1, rwN c0 s rw')), o2, o3⟩ ⟨u, hnx, m1, by show s1.slots.length = n; rw [m2]; exact hy.len, m3, m4, by show s1.idle.length < _; rw [m5]; exact hy.idle, hy.k0.mono m2, m6, hy.k2.mono m2, hy.k3.mono m2⟩ (by show picks.length - (i + 1) < picks.length - i; omega) ?_
    (refine go ?_; try exact True.intro)
    refine boArr ?_
    (refine go ?_; try exact True.intro)
    refine boArr ?_
    (refine go ?_; try exact True.intro)
    refine boOp ?_
    (refine go ?_; try exact True.intro)
    refine boOp (o := some (c1, rwN c0 s rw')) (a := 512) ?_
    (refine go ?_; try exact True.intro)
    refine boOp ?_
    (refine go ?_; try exact True.intro)
    refine boOp ?_
    (refine go ?_; try exact True.intro)
    refine boRop ?_
    (refine go ?_; try exact True.intro)
    refine boRop (o := some (c1, rwN c0 s rw')) (a := 517) (hB := congrArg (fun d => some (rcR 517 c1.th c1.h (decide (c1.ph = 1)) (rwN c0 s rw') c1.done d c1.blk)) (decide_eq_false hph).symm) ?_
    (refine go ?_; try exact True.intro)
    refine boRop ?_
    (refine go ?_; try exact True.intro)
    refine boRop ?_
    (refine go ?_; try exact True.intro)

set_option maxHeartbeats 16000000 in
theorem mr_none2 (c : Int) (l : List OpS) (handles picks : List Int) (hpk : ∀ y ∈ picks, 0 ≤ y ∧ y ≤ 255) {n : Nat} (hn : 1 ≤ n ∧ n ≤ 12) (s0 : Sto) (S : List Item) (hsz : PSpec Tryz.prog 15 [.c (.int .u8 c)] (V.int n))
    (hp : LSpec Tryz.prog 14 [V.int n, opsSV l] [] 0 (.tup [.p 0 10 0 0, .p 5 10 0 0]) (stoB s0 2 ++ rstoAt s0 5 7) 10) (h0 : MrOk n picks.length handles.length S ⟨0, 0, s0, none, none, none, none⟩) (hL : picks.length ≤ 200) (hH : handles.length ≤ 30) {i nx : Nat} {s : Sto} {o0 o1 o3 : Slo} (hy : MrOk n picks.length handles.length S ⟨i, nx, s, o0, o1, none, o3⟩) (u : i < picks.length) {p : Int} (hpp : picks[i]? = some p) (pb1 : 0 ≤ p) (pb2 : p ≤ 255) (ht : p.tmod 5 = ((2 : Nat) : Int)) :
    (mr_def c l handles picks hpk hn s0 S hsz hp h0).1 ⟨i, nx, s, o0, o1, none, o3⟩ := by
  have hml : (picks.map u8D).length = picks.length := List.length_map ..
  have hmh : (handles.map intD).length = handles.length := List.length_map ..
  have hi : i ≤ picks.length := hy.i
  have hnx : nx ≤ handles.length := hy.nx
  have hwds : Wds s 967 := hy.wds
  have hlen : s.slots.length = n := hy.len
  have hlog : s.m.log.length ≤ 2420 + i := hy.log
  (refine go ?_; try exact True.intro)
  rw [hml]
  rw [decide_eq_true (show (i : Int) < picks.length by omega)]
  (refine go ?_; try exact True.intro)
  refine idxB hpp ?_
  (refine go ?_; try exact True.intro)
  rw [ht]
  (refine go ?_; try exact True.intro)
  rw [hmh]
  by_cases v : nx < handles.length
  case neg =>
    rw [decide_eq_true (show (handles.length : Int) ≤ nx by omega)]
    (refine go ?_; try exact True.intro)
    refine .mk [] ⟨i + 1, nx, s, o0, o1, none, o3⟩ ⟨u, hnx, hwds, hy.len, by show s.m.log.length ≤ 2420 + (i + 1); omega, hy.shown, hy.idle, hy.k0, hy.k1, hy.k2, hy.k3⟩ (by show picks.length - (i + 1) < picks.length - i; omega) ?_
    (refine go ?_; try exact True.intro)
    refine boArr ?_
    (refine go ?_; try exact True.intro)
    refine boArr ?_
    (refine go ?_; try exact True.intro)
    refine boOp ?_
    (refine go ?_; try exact True.intro)
    refine boOp ?_
    (refine go ?_; try exact True.intro)
    refine boNo ?_
    (refine go ?_; try exact True.intro)
    refine boOp ?_
    (refine go ?_; try exact True.intro)
    refine boRop ?_
    (refine go ?_; try exact True.intro)
    refine boRop ?_
    (refine go ?_; try exact True.intro)
    refine boNo ?_
    (refine go ?_; try exact True.intro)
    refine boRop ?_
    (refine go ?_; try exact True.intro)
  rw [decide_eq_false (show ¬ (handles.length : Int) ≤ nx by omega)]
  obtain ⟨raw, hraw⟩ := get_lt v
  (refine go ?_; try exact True.intro)
  refine idxB hraw ?_
  (refine go ?_; try exact True.intro)
  refine callL (handleC s hwds (by have := hy.len; dsimp only at this; omega) raw) [some 512, some 513, some 1, some 515, some 516] [] rfl ?_
  generalize s.hndl raw = h
  (refine go ?_; try exact True.intro)
  refine callL (cNew4 s h 2) [some 512, some 513, some 1, some 515, some 516] [] rfl ?_
  (refine go ?_; try exact True.intro)
  refine callL (rcNew4 s h 2) [some 517, some 518, some 2, some 520, some 521] [] rfl ?_
  (refine go ?_; try exact True.intro)
  have hc : SloOk s (some (⟨((2 : Nat) : Int), h, 0, 0, false, false⟩, 0)) := SloOk.new _ _
  generalize hcc : (⟨((2 : Nat) : Int), h, 0, 0, false, false⟩ : COp) = cc at *
  obtain ⟨q1, q2, q3⟩ := hc _ rfl
  have a1 := cStepC cc s hwds q1
  have a2 := rcStepC cc 0 s hwds q1 q2 q3
  obtain ⟨m1, m2, m3, m4, m5, m6⟩ := mr_step hy hL u hc
  obtain ⟨c1, s1, hr⟩ : ∃ c1 s1, cStep cc s = (c1, s1) := ⟨_, _, rfl⟩
  have ef := cEffectC c1 s1
  have eb := cBlockedC c1 s1
  have er := cResultC c1 s1
  have rr := rcResultC c1 (rwN cc s 0)
  dsimp only at q1 q2 q3 m1 m2 m3 m4 m5 a1 a2
  rw [hr] at a1 a2 m1 m2 m3 m4 m5 m6
  dsimp only at a1 a2 m1 m2 m3 m4 m5 m6
  refine callL a1 [some 4288, some 512, some 513, some 1, some 515, some 516] [] rfl ?_
  (refine go ?_; try exact True.intro)
  refine callL a2 [some 4736, some 517, some 518, some 2, some 520, some 521] [] rfl ?_
  (refine go ?_; try exact True.intro)
  rw [show (!(decide (c1.ph = 2) == decide (c1.ph = 2))) = false by simp]
  (refine go ?_; try exact True.intro)
  refine dcallR ef [some 4288, some 512, some 513, some 5376, some 515, some 516] rfl rfl ?_
  (refine go ?_; try exact True.intro)
  rw [show (!(decide (c1.ph = 2) == decide (c1.ph = 2))) = false by simp]
  (refine go ?_; try exact True.intro)
  refine dcallR eb [some 4288, some 512, some 513, some 5376, some 515, some 516] rfl rfl ?_
  (refine go ?_; try exact True.intro)
  rw [show (!(c1.blk == c1.blk)) = false by simp]
  (refine go ?_; try exact True.intro)
  refine dcallR er [some 4288, some 512, some 513, some 5376, some 515, some 516] rfl rfl ?_
  (refine go ?_; try exact True.intro)
  refine dcallR rr [some 4736, some 517] rfl rfl ?_
  (refine go ?_; try exact True.intro)
  refine dcallC (eqlNC c1.done) ?_
  (refine go ?_; try exact True.intro)
  by_cases hph : c1.ph = 2
  · rw [decide_eq_true hph]
    (refine go ?_; try exact True.intro)
    refine .mk [(1, 5376), (2, 5696)] ⟨i + 1, (nx + 1), s1, o0, o1, none, o3⟩ ⟨u, v, m1, by show s1.slots.length = n; rw [m2]; exact hy.len, m3, m4, by show s1.idle.length < _; rw [m5]; exact hy.idle, hy.k0.mono m2, hy.k1.mono m2, SloOk.none, hy.k3.mono m2⟩ (by show picks.length - (i + 1) < picks.length - i; omega) ?_
    (refine go ?_; try exact True.intro)
    refine boArr ?_
    (refine go ?_; try exact True.intro)
    refine boArr ?_
    (refine go ?_; try exact True.intro)
    refine boOp ?_
    (refine go ?_; try exact True.intro)
    refine boOp ?_
    (refine go ?_; try exact True.intro)
    refine boNo ?_
    (refine go ?_; try exact True.intro)
    refine boOp ?_
    (refine go ?_; try exact True.intro)
    refine boRop ?_
    (refine go ?_; try exact True.intro)
    refine boRop ?_
    (refine go ?_; try exact True.intro)
    refine boNo ?_
    (refine go ?_; try exact True.intro)
    refine boRop ?_
    (refine go ?_; try exact True.intro)
  · rw [decide_eq_false hph]
    have hsn : sloN cc 0 s = some (c1, rwN cc s 0) := by unfold sloN; rw [hr, if_neg hph]
    rw [hsn] at m6
    (refine go ?_; try exact True.intro)
    refine .mk [(12, 4288), (16, 4736), (1, 5376), (2, 5696)] ⟨i + 1, (nx + 1), s1, o0, o1, (some (c1, rwN cc s 0)), o3⟩ ⟨u, v, m1, by show s1.slots.length = n; rw [m2]; exact hy.len, m3, m4, by show s1.idle.length < _; rw [m5]; exact hy.idle, hy.k0.mono m2, hy.k1.mono m2, m6, hy.k3.mono m2⟩ (by show picks.length - (i + 1) < picks.length - i; omega) ?_
    (refine go ?_; try exact True.intro)
    refine boArr ?_
    (refine go ?_; try exact True.intro)
    refine boArr ?_
    (refine go ?_; try exact True.intro)
    refine boOp ?_
    (refine go ?_; try exact True.intro)
    refine boOp ?_
    (refine go ?_; try exact True.intro)
    refine boOp (o := some (c1, rwN cc s 0)) (a := 512) ?_
    (refine go ?_; try exact True.intro)
    refine boOp ?_
    (refine go ?_; try exact True.intro)
    refine boRop ?_
    (refine go ?_; try exact True.intro)
    refine boRop ?_
    (refine go ?_; try exact True.intro)
    refine boRop (o := some (c1, rwN cc s 0)) (a := 517) (hB := congrArg (fun d => some (rcR 517 c1.th c1.h (decide (c1.ph = 1)) (rwN cc s 0) c1.done d c1.blk)) (decide_eq_false hph).symm) ?_
    (refine go ?_; try exact True.intro)
    refine boRop ?_
    (refine go ?_; try exact True.intro)

set_option maxHeartbeats 16000000 in
theorem mr_some2 (c : Int) (l : List OpS) (handles picks : List Int) (hpk : ∀ y ∈ picks, 0 ≤ y ∧ y ≤ 255) {n : Nat} (hn : 1 ≤ n ∧ n ≤ 12) (s0 : Sto) (S : List Item) (hsz : PSpec Tryz.prog 15 [.c (.int .u8 c)] (V.int n))
    (hp : LSpec Tryz.prog 14 [V.int n, opsSV l] [] 0 (.tup [.p 0 10 0 0, .p 5 10 0 0]) (stoB s0 2 ++ rstoAt s0 5 7) 10) (h0 : MrOk n picks.length handles.length S ⟨0, 0, s0, none, none, none, none⟩) (hL : picks.length ≤ 200) (hH : handles.length ≤ 30) {i nx : Nat} {s : Sto} {o0 o1 o3 : Slo} {c0 : COp} {rw' : Int} (hy : MrOk n picks.length handles.length S ⟨i, nx, s, o0, o1, (some (c0, rw')), o3⟩) (u : i < picks.length) {p : Int} (hpp : picks[i]? = some p) (pb1 : 0 ≤ p) (pb2 : p ≤ 255) (ht : p.tmod 5 = ((2 : Nat) : Int)) :
    (mr_def c l handles picks hpk hn s0 S hsz hp h0).1 ⟨i, nx, s, o0, o1, (some (c0, rw')), o3⟩ := by
  have hml : (picks.map u8D).length = picks.length := List.length_map ..
  have hmh : (handles.map intD).length = handles.length := List.length_map ..
  have hi : i ≤ picks.length := hy.i
  have hnx : nx ≤ handles.length := hy.nx
  have hwds : Wds s 967 := hy.wds
  have hlen : s.slots.length = n := hy.len
  have hlog : s.m.log.length ≤ 2420 + i := hy.log
  (refine go ?_; try exact True.intro)
  rw [hml]
  rw [decide_eq_true (show (i : Int) < picks.length by omega)]
  (refine go ?_; try exact True.intro)
  refine idxB hpp ?_
  (refine go ?_; try exact True.intro)
  rw [ht]
  have hc : SloOk s (some (c0, rw')) := hy.k2
  (refine go ?_; try exact True.intro)
  obtain ⟨q1, q2, q3⟩ := hc _ rfl
  have a1 := cStepC c0 s hwds q1
  have a2 := rcStepC c0 rw' s hwds q1 q2 q3
  obtain ⟨m1, m2, m3, m4, m5, m6⟩ := mr_step hy hL u hc
  obtain ⟨c1, s1, hr⟩ : ∃ c1 s1, cStep c0 s = (c1, s1) := ⟨_, _, rfl⟩
  have ef := cEffectC c1 s1
  have eb := cBlockedC c1 s1
  have er := cResultC c1 s1
  have rr := rcResultC c1 (rwN c0 s rw')
  dsimp only at q1 q2 q3 m1 m2 m3 m4 m5 a1 a2
  rw [hr] at a1 a2 m1 m2 m3 m4 m5 m6
  dsimp only at a1 a2 m1 m2 m3 m4 m5 m6
  refine callL a1 [some 12, some 512, some 513, some 1, some 515, some 516] [] rfl ?_
  (refine go ?_; try exact True.intro)
  refine callL a2 [some 16, some 517, some 518, some 2, some 520, some 521] [] rfl ?_
  (refine go ?_; try exact True.intro)
  rw [show (!(decide (c1.ph = 2) == decide (c1.ph = 2))) = false by simp]
  (refine go ?_; try exact True.intro)
  refine dcallR ef [some 12, some 512, some 513, some 3200, some 515, some 516] rfl rfl ?_
  (refine go ?_; try exact True.intro)
  rw [show (!(decide (c1.ph = 2) == decide (c1.ph = 2))) = false by simp]
  (refine go ?_; try exact True.intro)
  refine dcallR eb [some 12, some 512, some 513, some 3200, some 515, some 516] rfl rfl ?_
  (refine go ?_; try exact True.intro)
  rw [show (!(c1.blk == c1.blk)) = false by simp]
  (refine go ?_; try exact True.intro)
  refine dcallR er [some 12, some 512, some 513, some 3200, some 515, some 516] rfl rfl ?_
  (refine go ?_; try exact True.intro)
  refine dcallR rr [some 16, some 517] rfl rfl ?_
  (refine go ?_; try exact True.intro)
  refine dcallC (eqlNC c1.done) ?_
  (refine go ?_; try exact True.intro)
  by_cases hph : c1.ph = 2
  · rw [decide_eq_true hph]
    (refine go ?_; try exact True.intro)
    refine .mk [(1, 3200), (2, 3520)] ⟨i + 1, nx, s1, o0, o1, none, o3⟩ ⟨u, hnx, m1, by show s1.slots.length = n; rw [m2]; exact hy.len, m3, m4, by show s1.idle.length < _; rw [m5]; exact hy.idle, hy.k0.mono m2, hy.k1.mono m2, SloOk.none, hy.k3.mono m2⟩ (by show picks.length - (i + 1) < picks.length - i; omega) ?_
    (refine go ?_; try exact True.intro)
    refine boArr ?_
    (refine go ?_; try exact True.intro)
    refine boArr ?_
    (refine go ?_; try exact True.intro)
    refine boOp ?_
    (refine go ?_; try exact True.intro)
    refine boOp ?_
    (refine go ?_; try exact True.intro)
    refine boNo ?_
    (refine go ?_; try exact True.intro)
    refine boOp ?_
    (refine go ?_; try exact True.intro)
    refine boRop ?_
    (refine go ?_; try exact True.intro)
    refine boRop ?_
    (refine go ?_; try exact True.intro)
    refine boNo ?_
    (refine go ?_; try exact True.intro)
    refine boRop ?_
    (refine go ?_; try exact True.intro)
  · rw [decide_eq_false hph]
    have hsn : sloN c0 rw' s = some (c1, rwN c0 s rw') := by unfold sloN; rw [hr, if_neg hph]
    rw [hsn] at m6
    (refine go ?_; try exact True.intro)
    refine .mk [(1, 3200), (2, 3520)] ⟨i + 1, nx, s1, o0, o1, (some (c1, rwN c0 s rw')), o3⟩ ⟨u, hnx, m1, by show s1.slots.length = n; rw [m2]; exact hy.len, m3, m4, by show s1.idle.length < _; rw [m5]; exact hy.idle, hy.k0.mono m2, hy.k1.mono m2, m6, hy.k3.mono m2⟩ (by show picks.length - (i + 1) < picks.length - i; omega) ?_
    (refine go ?_; try exact True.intro)
    refine boArr ?_
    (refine go ?_; try exact True.intro)
    refine boArr ?_
    (refine go ?_; try exact True.intro)
    refine boOp ?_
    (refine go ?_; try exact True.intro)
    refine boOp ?_
    (refine go ?_; try exact True.intro)
    refine boOp (o := some (c1, rwN c0 s rw')) (a := 512) ?_
    (refine go ?_; try exact True.intro)
    refine boOp ?_
    (refine go ?_; try exact True.intro)
    refine boRop ?_
    (refine go ?_; try exact True.intro)
    refine boRop ?_
    (refine go ?_; try exact True.intro)
    refine boRop (o := some (c1, rwN c0 s rw')) (a := 517) (hB := congrArg (fun d => some (rcR 517 c1.th c1.h (decide (c1.ph = 1)) (rwN c0 s rw') c1.done d c1.blk)) (decide_eq_false hph).symm) ?_
    (refine go ?_; try exact True.intro)
    refine boRop ?_
    (refine go ?_; try exact True.intro)

set_option maxHeartbeats 16000000 in
theorem mr_none3 (c : Int) (l : List OpS) (handles picks : List Int) (hpk : ∀ y ∈ picks, 0 ≤ y ∧ y ≤ 255) {n : Nat} (hn : 1 ≤ n ∧ n ≤ 12) (s0 : Sto) (S : List Item) (hsz : PSpec Tryz.prog 15 [.c (.int .u8 c)] (V.int n))
    (hp : LSpec Tryz.prog 14 [V.int n, opsSV l] [] 0 (.tup [.p 0 10 0 0, .p 5 10 0 0]) (stoB s0 2 ++ rstoAt s0 5 7) 10) (h0 : MrOk n picks.length handles.length S ⟨0, 0, s0, none, none, none, none⟩) (hL : picks.length ≤ 200) (hH : handles.length ≤ 30) {i nx : Nat} {s : Sto} {o0 o1 o2 : Slo} (hy : MrOk n picks.length handles.length S ⟨i, nx, s, o0, o1, o2, none⟩) (u : i < picks.length) {p : Int} (hpp : picks[i]? = some p) (pb1 : 0 ≤ p) (pb2 : p ≤ 255) (ht : p.tmod 5 = ((3 : Nat) : Int)) :
    (mr_def c l handles picks hpk hn s0 S hsz hp h0).1 ⟨i, nx, s, o0, o1, o2, none⟩ := by
  have hml : (picks.map u8D).length = picks.length := List.length_map ..
  have hmh : (handles.map intD).length = handles.length := List.length_map ..
  have hi : i ≤ picks.length := hy.i
  have hnx : nx ≤ handles.length := hy.nx
  have hwds : Wds s 967 := hy.wds
  have hlen : s.slots.length = n := hy.len
  have hlog : s.m.log.length ≤ 2420 + i := hy.log
  (refine go ?_; try exact True.intro)
  rw [hml]
  rw [decide_eq_true (show (i : Int) < picks.length by omega)]
  (refine go ?_; try exact True.intro)
  refine idxB hpp ?_
  (refine go ?_; try exact True.intro)
  rw [ht]
  (refine go ?_; try exact True.intro)
  rw [hmh]
  by_cases v : nx < handles.length
  case neg =>
    rw [decide_eq_true (show (handles.length : Int) ≤ nx by omega)]
    (refine go ?_; try exact True.intro)
    refine .mk [] ⟨i + 1, nx, s, o0, o1, o2, none⟩ ⟨u, hnx, hwds, hy.len, by show s.m.log.length ≤ 2420 + (i + 1); omega, hy.shown, hy.idle, hy.k0, hy.k1, hy.k2, hy.k3⟩ (by show picks.length - (i + 1) < picks.length - i; omega) ?_
    (refine go ?_; try exact True.intro)
    refine boArr ?_
    (refine go ?_; try exact True.intro)
    refine boArr ?_
    (refine go ?_; try exact True.intro)
    refine boOp ?_
    (refine go ?_; try exact True.intro)
    refine boOp ?_
    (refine go ?_; try exact True.intro)
    refine boOp ?_
    (refine go ?_; try exact True.intro)
    refine boNo ?_
    (refine go ?_; try exact True.intro)
    refine boRop ?_
    (refine go ?_; try exact True.intro)
    refine boRop ?_
    (refine go ?_; try exact True.intro)
    refine boRop ?_
    (refine go ?_; try exact True.intro)
    refine boNo ?_
    (refine go ?_; try exact True.intro)
  rw [decide_eq_false (show ¬ (handles.length : Int) ≤ nx by omega)]
  obtain ⟨raw, hraw⟩ := get_lt v
  (refine go ?_; try exact True.intro)
  refine idxB hraw ?_
  (refine go ?_; try exact True.intro)
  refine callL (handleC s hwds (by have := hy.len; dsimp only at this; omega) raw) [some 512, some 513, some 1, some 515, some 516] [] rfl ?_
  generalize s.hndl raw = h
  (refine go ?_; try exact True.intro)
  refine callL (cNew4 s h 3) [some 512, some 513, some 1, some 515, some 516] [] rfl ?_
  (refine go ?_; try exact True.intro)
  refine callL (rcNew4 s h 3) [some 517, some 518, some 2, some 520, some 521] [] rfl ?_
  (refine go ?_; try exact True.intro)
  have hc : SloOk s (some (⟨((3 : Nat) : Int), h, 0, 0, false, false⟩, 0)) := SloOk.new _ _
  generalize hcc : (⟨((3 : Nat) : Int), h, 0, 0, false, false⟩ : COp) = cc at *
  obtain ⟨q1, q2, q3⟩ := hc _ rfl
  have a1 := cStepC cc s hwds q1
  have a2 := rcStepC cc 0 s hwds q1 q2 q3
  obtain ⟨m1, m2, m3, m4, m5, m6⟩ := mr_step hy hL u hc
  obtain ⟨c1, s1, hr⟩ : ∃ c1 s1, cStep cc s = (c1, s1) := ⟨_, _, rfl⟩
  have ef := cEffectC c1 s1
  have eb := cBlockedC c1 s1
  have er := cResultC c1 s1
  have rr := rcResultC c1 (rwN cc s 0)
  dsimp only at q1 q2 q3 m1 m2 m3 m4 m5 a1 a2
  rw [hr] at a1 a2 m1 m2 m3 m4 m5 m6
  dsimp only at a1 a2 m1 m2 m3 m4 m5 m6
  refine callL a1 [some 4288, some 512, some 513, some 1, some 515, some 516] [] rfl ?_
  (refine go ?_; try exact True.intro)
  refine callL a2 [some 4736, some 517, some 518, some 2, some 520, some 521] [] rfl ?_
  (refine go ?_; try exact True.intro)
  rw [show (!(decide (c1.ph = 2) == decide (c1.ph = 2))) = false by simp]
  (refine go ?_; try exact True.intro)
  refine dcallR ef [some 4288, some 512, some 513, some 5376, some 515, some 516] rfl rfl ?_
  (refine go ?_; try exact True.intro)
  rw [show (!(decide (c1.ph = 2) == decide (c1.ph = 2))) = false by simp]
  (refine go ?_; try exact True.intro)
  refine dcallR eb [some 4288, some 512, some 513, some 5376, some 515, some 516] rfl rfl ?_
  (refine go ?_; try exact True.intro)
  rw [show (!(c1.blk == c1.blk)) = false by simp]
  (refine go ?_; try exact True.intro)
  refine dcallR er [some 4288, some 512, some 513, some 5376, some 515, some 516] rfl rfl ?_
  (refine go ?_; try exact True.intro)
  refine dcallR rr [some 4736, some 517] rfl rfl ?_
  (refine go ?_; try exact True.intro)
  refine dcallC (eqlNC c1.done) ?_
  (refine go ?_; try exact True.intro)
  by_cases hph : c1.ph = 2
  · rw [decide_eq_true hph]
    (refine go ?_; try exact True.intro)
    refine .mk [(1, 5376), (2, 5696)] ⟨i + 1, (nx + 1), s1, o0, o1, o2, none⟩ ⟨u, v, m1, by show s1.slots.length = n; rw [m2]; exact hy.len, m3, m4, by show s1.idle.length < _; rw [m5]; exact hy.idle, hy.k0.mono m2, hy.k1.mono m2, hy.k2.mono m2, SloOk.none⟩ (by show picks.length - (i + 1) < picks.length - i; omega) ?_
    (refine go ?_; try exact True.intro)
    refine boArr ?_
    (refine go ?_; try exact True.intro)
    refine boArr ?_
    (refine go ?_; try exact True.intro)
    refine boOp ?_
    (refine go ?_; try exact True.intro)
    refine boOp ?_
    (refine go ?_; try exact True.intro)
    refine boOp ?_
    (refine go ?_; try exact True.intro)
    refine boNo ?_
    (refine go ?_; try exact True.intro)
    refine boRop ?_
    (refine go ?_; try exact True.intro)
    refine boRop ?_
    (refine go ?_; try exact True.intro)
    refine boRop ?_
    (refine go ?_; try exact True.intro)
    refine boNo ?_
    (refine go ?_; try exact True.intro)
  · rw [decide_eq_false hph]
    have hsn : sloN cc 0 s = some (c1, rwN cc s 0) := by unfold sloN; rw [hr, if_neg hph]
    rw [hsn] at m6
    (refine go ?_; try exact True.intro)
    refine .mk [(13, 4288), (17, 4736), (1, 5376), (2, 5696)] ⟨i + 1, (nx + 1), s1, o0, o1, o2, (some (c1, rwN cc s 0))⟩ ⟨u, v, m1, by show s1.slots.length = n; rw [m2]; exact hy.len, m3, m4, by show s1.idle.length < _; rw [m5]; exact hy.idle, hy.k0.mono m2, hy.k1.mono m2, hy.k2.mono m2, m6⟩ (by show picks.length - (i + 1) < picks.length - i; omega) ?_
    (refine go ?_; try exact True.intro)
    refine boArr ?_
    (refine go ?_; try exact True.intro)
    refine boArr ?_
    (refine go ?_; try exact True.intro)
    refine boOp ?_
    (refine go ?_; try exact True.intro)
    refine boOp ?_
    (refine go ?_; try exact True.intro)
    refine boOp ?_
    (refine go ?_; try exact True.intro)
    refine boOp (o := some (c1, rwN cc s 0)) (a := 512) ?_
    (refine go ?_; try exact True.intro)
    refine boRop ?_
    (refine go ?_; try exact True.intro)
    refine boRop ?_
    (refine go ?_; try exact True.intro)
    refine boRop ?_
    (refine go ?_; try exact True.intro)
    refine boRop (o := some (c1, rwN cc s 0)) (a := 517) (hB := congrArg (fun d => some (rcR 517 c1.th c1.h (decide (c1.ph = 1)) (rwN cc s 0) c1.done d c1.blk)) (decide_eq_false hph).symm) ?_
    (refine go ?_; try exact True.intro)

set_option maxHeartbeats 16000000 in
theorem mr_some3 (c : Int) (l : List OpS) (handles picks : List Int) (hpk : ∀ y ∈ picks, 0 ≤ y ∧ y ≤ 255) {n : Nat} (hn : 1 ≤ n ∧ n ≤ 12) (s0 : Sto) (S : List Item) (hsz : PSpec Tryz.prog 15 [.c (.int .u8 c)] (V.int n))
    (hp : LSpec Tryz.prog 14 [V.int n, opsSV l] [] 0 (.tup [.p 0 10 0 0, .p 5 10 0 0]) (stoB s0 2 ++ rstoAt s0 5 7) 10) (h0 : MrOk n picks.length handles.length S ⟨0, 0, s0, none, none, none, none⟩) (hL : picks.length ≤ 200) (hH : handles.length ≤ 30) {i nx : Nat} {s : Sto} {o0 o1 o2 : Slo} {c0 : COp} {rw' : Int} (hy : MrOk n picks.length handles.length S ⟨i, nx, s, o0, o1, o2, (some (c0, rw'))⟩) (u : i < picks.length) {p : Int} (hpp : picks[i]? = some p) (pb1 : 0 ≤ p) (pb2 : p ≤ 255) (ht : p.tmod 5 = ((3 : Nat) : Int)) :
    (mr_def c l handles picks hpk hn s0 S hsz hp h0).1 ⟨i, nx, s, o0, o1, o2, (some (c0, rw'))⟩ := by
  have hml : (picks.map u8D).length = picks.length := List.length_map ..
  have hmh : (handles.map intD).length = handles.length := List.length_map ..
  have hi : i ≤ picks.length := hy.i
  have hnx : nx ≤ handles.length := hy.nx
  have hwds : Wds s 967 := hy.wds
  have hlen : s.slots.length = n := hy.len
  have hlog : s.m.log.length ≤ 2420 + i := hy.log
  (refine go ?_; try exact True.intro)
  rw [hml]
  rw [decide_eq_true (show (i : Int) < picks.length by omega)]
  (refine go ?_; try exact True.intro)
  refine idxB hpp ?_
  (refine go ?_; try exact True.intro)
  rw [ht]
  have hc : SloOk s (some (c0, rw')) := hy.k3
  (refine go ?_; try exact True.intro)
  obtain ⟨q1, q2, q3⟩ := hc _ rfl
  have a1 := cStepC c0 s hwds q1
  have a2 := rcStepC c0 rw' s hwds q1 q2 q3
  obtain ⟨m1, m2, m3, m4, m5, m6⟩ := mr_step hy hL u hc
  obtain ⟨c1, s1, hr⟩ : ∃ c1 s1, cStep c0 s = (c1, s1) := ⟨_, _, rfl⟩
  have ef := cEffectC c1 s1
  have eb := cBlockedC c1 s1
  have er := cResultC c1 s1
  have rr := rcResultC c1 (rwN c0 s rw')
  dsimp only at q1 q2 q3 m1 m2 m3 m4 m5 a1 a2
  rw [hr] at a1 a2 m1 m2 m3 m4 m5 m6
  dsimp only at a1 a2 m1 m2 m3 m4 m5 m6
  refine callL a1 [some 13, some 512, some 513, some 1, some 515, some 516] [] rfl ?_
  (refine go ?_; try exact True.intro)
  refine callL a2 [some 17, some 517, some 518, some 2, some 520, some 521] [] rfl ?_
  (refine go ?_; try exact True.intro)
  rw [show (!(decide (c1.ph = 2) == decide (c1.ph = 2))) = false by simp]
  (refine go ?_; try exact True.intro)
  refine dcallR ef [some 13, some 512, some 513, some 3200, some 515, some 516] rfl rfl ?_
  (refine go ?_; try exact True.intro)
  rw [show (!(decide (c1.ph = 2) == decide (c1.ph = 2))) = false by simp]
  (refine go ?_; try exact True.intro)
  refine dcallR eb [some 13, some 512, some 513, some 3200, some 515, some 516] rfl rfl ?_
  (refine go ?_; try exact True.intro)
  rw [show (!(c1.blk == c1.blk)) = false by simp]
  (refine go ?_; try exact True.intro)
  refine dcallR er [some 13, some 512, some 513, some 3200, some 515, some 516] rfl rfl ?_
  (refine go ?_; try exact True.intro)
  refine dcallR rr [some 17, some 517] rfl rfl ?_
  (refine go ?_; try exact True.intro)
  refine dcallC (eqlNC c1.done) ?_
  (refine go ?_; try exact True.intro)
  by_cases hph : c1.ph = 2
  · rw [decide_eq_true hph]
    (refine go ?_; try exact True.intro)
    refine .mk [(1, 3200), (2, 3520)] ⟨i + 1, nx, s1, o0, o1, o2, none⟩ ⟨u, hnx, m1, by show s1.slots.length = n; rw [m2]; exact hy.len, m3, m4, by show s1.idle.length < _; rw [m5]; exact hy.idle, hy.k0.mono m2, hy.k1.mono m2, hy.k2.mono m2, SloOk.none⟩ (by show picks.length - (i + 1) < picks.length - i; omega) ?_
    (refine go ?_; try exact True.intro)
    refine boArr ?_
    (refine go ?_; try exact True.intro)
    refine boArr ?_
    (refine go ?_; try exact True.intro)
    refine boOp ?_
    (refine go ?_; try exact True.intro)
    refine boOp ?_
    (refine go ?_; try exact True.intro)
    refine boOp ?_
    (refine go ?_; try exact True.intro)
    refine boNo ?_
    (refine go ?_; try exact True.intro)
    refine boRop ?_
    (refine go ?_; try exact True.intro)
    refine boRop ?_
    (refine go ?_; try exact True.intro)
    refine boRop ?_
    (refine go ?_; try exact True.intro)
    refine boNo ?_
    (refine go ?_; try exact True.intro)
  · rw [decide_eq_false hph]
    have hsn : sloN c0 rw' s = some (c1, rwN c0 s rw') := by unfold sloN; rw [hr, if_neg hph]
    rw [hsn] at m6
    (refine go ?_; try exact True.intro)
    refine .mk [(1, 3200), (2, 3520)] ⟨i + 1, nx, s1, o0, o1, o2, (some (c1, rwN c0 s rw'))⟩ ⟨u, hnx, m1, by show s1.slots.length = n; rw [m2]; exact hy.len, m3, m4, by show s1.idle.length < _; rw [m5]; exact hy.idle, hy.k0.mono m2, hy.k1.mono m2, hy.k2.mono m2, m6⟩ (by show picks.length - (i + 1) < picks.length - i; omega) ?_
    (refine go ?_; try exact True.intro)
    refine boArr ?_
    (refine go ?_; try exact True.intro)
    refine boArr ?_
    (refine go ?_; try exact True.intro)
    refine boOp ?_
    (refine go ?_; try exact True.intro)
    refine boOp ?_
    (refine go ?_; try exact True.intro)
    refine boOp ?_
    (refine go ?_; try exact True.intro)
    refine boOp (o := some (c1, rwN c0 s rw')) (a := 512) ?_
    (refine go ?_; try exact True.intro)
    refine boRop ?_
    (refine go ?_; try exact True.intro)
    refine boRop ?_
    (refine go ?_; try exact True.intro)
    refine boRop ?_
    (refine go ?_; try exact True.intro)
    refine boRop (o := some (c1, rwN c0 s rw')) (a := 517) (hB := congrArg (fun d => some (rcR 517 c1.th c1.h (decide (c1.ph = 1)) (rwN c0 s rw') c1.done d c1.blk)) (decide_eq_false hph).symm) ?_
    (refine go ?_; try exact True.intro)

theorem mr_walk (c : Int) (l : List OpS) (handles picks : List Int) (hpk : ∀ y ∈ picks, 0 ≤ y ∧ y ≤ 255) {n : Nat} (hn : 1 ≤ n ∧ n ≤ 12) (s0 : Sto) (S : List Item) (hsz : PSpec Tryz.prog 15 [.c (.int .u8 c)] (V.int n))
    (hp : LSpec Tryz.prog 14 [V.int n, opsSV l] [] 0 (.tup [.p 0 10 0 0, .p 5 10 0 0]) (stoB s0 2 ++ rstoAt s0 5 7) 10) (h0 : MrOk n picks.length handles.length S ⟨0, 0, s0, none, none, none, none⟩) :
    PSpec Tryz.prog 7 [.c (.int .u8 c), opsSV l, intsV handles, u8sV picks] (V.bool true) := by
  refine (mr_def c l handles picks hpk hn s0 S hsz hp h0).2 ?_
  rintro ⟨i, nx, s, o0, o1, o2, o3⟩ hL hH hy
  by_cases u : i < picks.length
  case neg => exact mr_exit c l handles picks hpk hn s0 S hsz hp h0 hL hH hy u
  obtain ⟨p, hpp⟩ := get_lt u
  obtain ⟨pb1, pb2⟩ := hpk p (List.mem_of_getElem? hpp)
  obtain ⟨t, ht, htl⟩ := pick5 ⟨pb1, pb2⟩
  rcases (show t = 4 ∨ t = 0 ∨ t = 1 ∨ t = 2 ∨ t = 3 by omega) with rfl | rfl | rfl | rfl | rfl
  · exact mr_word c l handles picks hpk hn s0 S hsz hp h0 hL hH hy u hpp pb1 pb2 ht
  · rcases o0 with _ | ⟨c0, rw'⟩
    · exact mr_none0 c l handles picks hpk hn s0 S hsz hp h0 hL hH hy u hpp pb1 pb2 ht
    · exact mr_some0 c l handles picks hpk hn s0 S hsz hp h0 hL hH hy u hpp pb1 pb2 ht
  · rcases o1 with _ | ⟨c0, rw'⟩
    · exact mr_none1 c l handles picks hpk hn s0 S hsz hp h0 hL hH hy u hpp pb1 pb2 ht
    · exact mr_some1 c l handles picks hpk hn s0 S hsz hp h0 hL hH hy u hpp pb1 pb2 ht
  · rcases o2 with _ | ⟨c0, rw'⟩
    · exact mr_none2 c l handles picks hpk hn s0 S hsz hp h0 hL hH hy u hpp pb1 pb2 ht
    · exact mr_some2 c l handles picks hpk hn s0 S hsz hp h0 hL hH hy u hpp pb1 pb2 ht
  · rcases o3 with _ | ⟨c0, rw'⟩
    · exact mr_none3 c l handles picks hpk hn s0 S hsz hp h0 hL hH hy u hpp pb1 pb2 ht
    · exact mr_some3 c l handles picks hpk hn s0 S hsz hp h0 hL hH hy u hpp pb1 pb2 ht

end Go.Proofs.YtcffiehcdadimaaGreat.Abs
