/- Laws of cancellations: the walk of four calls of one handle. -/
import Derived.Test.YtcffiehcdadimaaGreatJC
namespace Go.Proofs.YtcffiehcdadimaaGreat.Abs
open Go.Proofs
set_option maxRecDepth 10000
set_option linter.unusedSimpArgs false
set_option linter.unusedVariables false
/-- four cancellations, and what is counted -/
structure Onc where
  i : Nat
  s : Sto
  c : Nat → COp
  e : Nat → Bool
  good : Nat
  first : Bool
/-- a round in which thread t is picked -/
def Onc.next (x : Onc) (t : Nat) : Onc :=
  if x.e t = true then { x with i := x.i + 1 }
  else if (cStep (x.c t) x.s).1.ph = 2 then
    { i := x.i + 1, s := (cStep (x.c t) x.s).2, c := upd x.c t (cStep (x.c t) x.s).1, e := upd x.e t true, good := if (cStep (x.c t) x.s).1.done = true then x.good + 1 else x.good, first := false }
  else { x with i := x.i + 1, s := (cStep (x.c t) x.s).2, c := upd x.c t (cStep (x.c t) x.s).1 }
theorem Onc.next_yes {x : Onc} {t : Nat} (h : x.e t = true) : x.next t = { x with i := x.i + 1 } := if_pos h
theorem Onc.next_run {x : Onc} {t : Nat} {c1 : COp} {s1 : Sto} (h : x.e t = false) (hr : cStep (x.c t) x.s = (c1, s1)) (hp : c1.ph ≠ 2) : x.next t = { x with i := x.i + 1, s := s1, c := upd x.c t c1 } := by
  unfold Onc.next
  rw [if_neg (by rw [h]; decide), hr, if_neg hp]
theorem Onc.next_ret {x : Onc} {t : Nat} {c1 : COp} {s1 : Sto} (h : x.e t = false) (hr : cStep (x.c t) x.s = (c1, s1)) (hp : c1.ph = 2) : x.next t = { i := x.i + 1, s := s1, c := upd x.c t c1, e := upd x.e t true, good := if c1.done = true then x.good + 1 else x.good, first := false } := by
  unfold Onc.next
  rw [if_neg (by rw [h]; decide), hr, if_pos hp]
/-- the thread of round i -/
def pickAt (picks : List Int) (i : Nat) : Nat := (((picks[i]?).getD i).tmod 4).toNat
def oncB (x : Onc) : List (Nat × B) := [(3, .rows 4 [[.p 10 10 0 0, .p 11 10 0 0, .p 12 10 0 0, .p 13 10 0 0]]), (4, .rows 4 [[V.bool (x.e 0), V.bool (x.e 1), V.bool (x.e 2), V.bool (x.e 3)]]),
  (10, copR (x.c 0) 384), (11, copR (x.c 1) 384), (12, copR (x.c 2) 384), (13, copR (x.c 3) 384)]
theorem pickAt_in {picks : List Int} {i : Nat} {y : Int} (h : picks[i]? = some y) (hy : 0 ≤ y ∧ y ≤ 255) : y.tmod 4 = (pickAt picks i : Int) ∧ pickAt picks i < 4 := by
  have h1 := Int.tmod_nonneg (b := 4) hy.1
  have h2 := (tmod_bounds y 4 (by omega)).2
  unfold pickAt
  rw [h, Option.getD_some]
  omega
theorem pickAt_out {picks : List Int} {i : Nat} (h : picks.length ≤ i) : ((i : Int)).tmod 4 = (pickAt picks i : Int) ∧ pickAt picks i = i % 4 := by
  unfold pickAt
  rw [List.getElem?_eq_none h, Option.getD_none, Int.tmod_eq_emod_of_nonneg (by omega)]
  omega
theorem pickAt_lt {picks : List Int} (hpk : ∀ y ∈ picks, 0 ≤ y ∧ y ≤ 255) (i : Nat) : pickAt picks i < 4 := by
  by_cases v : i < picks.length
  · obtain ⟨p, hpp⟩ := get_lt v
    exact (pickAt_in hpp (hpk p (List.mem_of_getElem? hpp))).2
  · rw [(pickAt_out (by omega)).2]; omega
theorem cNew4 (s : Sto) (h : Int) (t : Nat) : LSpec Tryz.prog 19 [.p 0 10 0 0, V.int t, .agg [V.int 2, V.int 0, V.int h, V.int 0, V.int 0]] (stoB s 2) 5 (.p 5 10 0 0) (stoB s 2 ++ [(5, copR ⟨t, h, 0, 0, false, false⟩ 0)]) 6 := cNewC s t h 2 0 0 0
def nilP : V := .c (.pointer none)
/-- the blocks of the calls while they are made -/
def crB (h : Int) : Nat → List (Nat × B)
  | 0 => [(3, .rows 4 [[nilP, nilP, nilP, nilP]])]
  | 1 => [(3, .rows 4 [[.p 10 10 0 0, nilP, nilP, nilP]]), (10, copR ⟨((0 : Nat) : Int), h, 0, 0, false, false⟩ 384)]
  | 2 => [(3, .rows 4 [[.p 10 10 0 0, .p 11 10 0 0, nilP, nilP]]), (10, copR ⟨((0 : Nat) : Int), h, 0, 0, false, false⟩ 384), (11, copR ⟨((1 : Nat) : Int), h, 0, 0, false, false⟩ 384)]
  | 3 => [(3, .rows 4 [[.p 10 10 0 0, .p 11 10 0 0, .p 12 10 0 0, nilP]]), (10, copR ⟨((0 : Nat) : Int), h, 0, 0, false, false⟩ 384), (11, copR ⟨((1 : Nat) : Int), h, 0, 0, false, false⟩ 384), (12, copR ⟨((2 : Nat) : Int), h, 0, 0, false, false⟩ 384)]
  | _ => [(3, .rows 4 [[.p 10 10 0 0, .p 11 10 0 0, .p 12 10 0 0, .p 13 10 0 0]]), (10, copR ⟨((0 : Nat) : Int), h, 0, 0, false, false⟩ 384), (11, copR ⟨((1 : Nat) : Int), h, 0, 0, false, false⟩ 384), (12, copR ⟨((2 : Nat) : Int), h, 0, 0, false, false⟩ 384), (13, copR ⟨((3 : Nat) : Int), h, 0, 0, false, false⟩ 384)]
set_option maxHeartbeats 8000000 in
theorem once_walk (c raw : Int) (l : List OpS) (picks : List Int) (hpk : ∀ y ∈ picks, 0 ≤ y ∧ y ≤ 255) {n : Nat} (s : Sto) (S : List Item) (x : Slt) (lv : Bool) (bd : Int) (I : Onc → Prop) (hsz : PSpec Tryz.prog 15 [.c (.int .u8 c)] (V.int n))
    (hp : LSpec Tryz.prog 14 [V.int n, opsSV l] [] 0 (.tup [.p 0 10 0 0, .p 5 10 0 0]) (stoB s 2 ++ rstoAt s 5 7) 10)
    (hh : LSpec Tryz.prog 16 [.p 0 10 0 0, V.int raw] (stoB s 2) 5 (V.int (s.hndl raw)) (stoB s 2) 5) (hs : Shown s S)
    (hlk : PSpec Tryz.prog 17 [arenaV s.pics s.idle s.next, V.int (s.hndl raw)] (.tup [x.v, V.bool lv]))
    (h0 : I ⟨0, s, fun t => ⟨t, s.hndl raw, 0, 0, false, false⟩, fun _ => false, 0, true⟩)
    (hi : ∀ y, I y → y.i ≤ picks.length + 40 ∧ y.good ≤ 4)
    (hok : ∀ y t, I y → t < 4 → y.e t = false → Wds y.s bd ∧ COk (y.c t) bd)
    (hst : ∀ y, I y → y.i < picks.length + 40 → I (y.next (pickAt picks y.i)) ∧ (y.e (pickAt picks y.i) = false → (cStep (y.c (pickAt picks y.i)) y.s).1.ph = 2 → (cStep (y.c (pickAt picks y.i)) y.s).1.done = true → y.first = true))
    (hend : ∀ y, I y → y.i = picks.length + 40 → y.good = (if (lv && decide (x.state = 1)) = true then 1 else 0) ∧ y.e 0 = true ∧ y.e 1 = true ∧ y.e 2 = true ∧ y.e 3 = true) :
    PSpec Tryz.prog 3 [.c (.int .u8 c), opsSV l, V.int raw, u8sV picks] (V.bool true) := by
  have hsl := hs.fits.slots
  have hpl := pics_len s
  have hd := hs.arena
  have hml : (picks.map u8D).length = picks.length := List.length_map ..
  generalize s.hndl raw = h at *
  refine pspec tab_ok mix Tryz.func3 (by kernel_rfl) rfl rfl ?_
  (refine go ?_; try exact True.intro)
  refine callB head13C ?_
  (refine go ?_; try exact True.intro)
  refine callB hsz ?_
  (refine go ?_; try exact True.intro)
  refine callL hp [] [] rfl ?_
  (refine go ?_; try exact True.intro)
  by_cases hg : (200 : Int) < picks.length
  · rw [hml, decide_eq_true hg]
    (refine go ?_; try exact True.intro)
    exact .same rfl
  rw [hml, decide_eq_false hg]
  (refine go ?_; try exact True.intro)
  refine callL hh [some 384, some 385, some 386, some 387, some 388] [] rfl ?_
  (refine go ?_; try exact True.intro)
  refine callL hd [some 384, some 385, some 386, some 387, some 388] [] rfl ?_
  (refine go ?_; try exact True.intro)
  refine callB hlk ?_
  (refine go ?_; try exact True.intro)
  refine loopB tab_ok mix [3, 9, 10, 12, 13, 14] [384, 385, 386, 387, 388, 1920] (fun i : Nat => [(15, .p 3 4 0 0), (16, .p 4 4 0 0), (17, V.int i)]) (fun i => crB h i ++ [(4, .rows 4 [[V.bool false, V.bool false, V.bool false, V.bool false]])]) (fun i => i ≤ 4) (fun i => 4 - i) [(3, 2112), (4, 2176)] 0 rfl (by omega) (by (refine go ?_; try exact True.intro)) ?_
  rintro i hi4
  rcases (show i = 0 ∨ i = 1 ∨ i = 2 ∨ i = 3 ∨ i = 4 by omega) with rfl | rfl | rfl | rfl | rfl
  · (refine go ?_; try exact True.intro)
    refine callL (cNew4 s h 0) [some 384, some 385, some 386, some 387, some 388] [] rfl ?_
    (refine go ?_; try exact True.intro)
    refine .mk [(10, 2752)] 1 (by omega) (by omega) ?_
    (refine go ?_; try exact True.intro)
  · (refine go ?_; try exact True.intro)
    refine callL (cNew4 s h 1) [some 384, some 385, some 386, some 387, some 388] [] rfl ?_
    (refine go ?_; try exact True.intro)
    refine .mk [(11, 2752)] 2 (by omega) (by omega) ?_
    (refine go ?_; try exact True.intro)
  · (refine go ?_; try exact True.intro)
    refine callL (cNew4 s h 2) [some 384, some 385, some 386, some 387, some 388] [] rfl ?_
    (refine go ?_; try exact True.intro)
    refine .mk [(12, 2752)] 3 (by omega) (by omega) ?_
    (refine go ?_; try exact True.intro)
  · (refine go ?_; try exact True.intro)
    refine callL (cNew4 s h 3) [some 384, some 385, some 386, some 387, some 388] [] rfl ?_
    (refine go ?_; try exact True.intro)
    refine .mk [(13, 2752)] 4 (by omega) (by omega) ?_
    (refine go ?_; try exact True.intro)
  (refine go ?_; try exact True.intro)
  refine loopB tab_ok mix [3, 9, 13, 14, 15, 16] [1920] (fun y : Onc => [(18, V.int y.good), (19, V.bool y.first), (20, V.int y.i)]) (fun y => stoAt y.s 384 1 ++ oncB y) I (fun y => picks.length + 40 - y.i) [(1, 386)] _ rfl h0 (by (refine go ?_; try exact True.intro)) ?_
  clear h0
  rintro y hy
  obtain ⟨hy1, hy2⟩ := hi _ hy
  have hok' := fun t => hok _ t hy
  have hst' := hst _ hy
  have hend' := hend _ hy
  have hlen : picks.length ≤ 200 := by omega
  (refine go ?_; try exact True.intro)
  rw [hml]
  (refine go ?_; try exact True.intro)
  by_cases u : y.i < picks.length + 40
  case neg =>
    rw [decide_eq_false (show ¬ (y.i : Int) < (picks.length : Int) + 40 by omega)]
    (refine go ?_; try exact True.intro)
    obtain ⟨g1, g2, g3, g4, g5⟩ := hend' (by omega)
    rw [g2, g3, g4, g5, g1]
    cases lv with
    | false =>
      (refine go ?_; try exact True.intro)
      exact .same rfl
    | true =>
      (refine go ?_; try exact True.intro)
      by_cases hx1 : x.state = 1
      · rw [decide_eq_true hx1]
        (refine go ?_; try exact True.intro)
        exact .same rfl
      · rw [decide_eq_false hx1]
        (refine go ?_; try exact True.intro)
        exact .same rfl
  rw [decide_eq_true (show (y.i : Int) < (picks.length : Int) + 40 by omega)]
  obtain ⟨hn1, hn2⟩ := hst' u
  clear hst' hend'
  (refine goj ?_; try trivial)
  refine joinB tab_ok mix [3, 9, 13, 14, 15, 16, 18, 19, 20] [384, 385, 1, 387, 388, 3, 4, 10, 11, 12, 13, 1920] (fun z : Nat => [(21, V.int z)]) (fun z => []) (fun z => z = pickAt picks y.i) ?_ ?_
  · (refine go ?_; try exact True.intro)
    rw [hml]
    (refine go ?_; try exact True.intro)
    by_cases v : y.i < picks.length
    · rw [decide_eq_true (show (y.i : Int) < (picks.length : Int) by omega)]
      obtain ⟨p, hpp⟩ := get_lt v
      obtain ⟨q1, q2⟩ := pickAt_in hpp (hpk p (List.mem_of_getElem? hpp))
      obtain ⟨pb1, pb2⟩ := hpk p (List.mem_of_getElem? hpp)
      (refine go ?_; try exact True.intro)
      refine idxB hpp ?_
      (refine go ?_; try exact True.intro)
      rw [q1]
      refine .mk [] _ rfl ?_
      (refine go ?_; try exact True.intro)
    · rw [decide_eq_false (show ¬ (y.i : Int) < (picks.length : Int) by omega)]
      obtain ⟨q1, q2⟩ := pickAt_out (picks := picks) (i := y.i) (by omega)
      (refine go ?_; try exact True.intro)
      rw [q1]
      refine .mk [] _ rfl ?_
      (refine go ?_; try exact True.intro)
  rintro _ rfl
  have htl := pickAt_lt hpk y.i
  generalize pickAt picks y.i = t at *
  clear hy hd hlk hp hh hsz
  rcases (show t = 0 ∨ t = 1 ∨ t = 2 ∨ t = 3 by omega) with rfl | rfl | rfl | rfl
  · rcases Bool.eq_false_or_eq_true (y.e 0) with he | he
    · skip
      (refine go ?_; try exact True.intro)
      rw [Onc.next_yes he] at hn1
      rw [he]
      (refine go ?_; try exact True.intro)
      refine .mk [] _ hn1 (by dsimp only; omega) ?_
      (refine go ?_; try exact True.intro)
    · skip
      (refine go ?_; try exact True.intro)
      obtain ⟨w1, w2⟩ := hok' 0 (by decide) he
      have a1 := cStepC (y.c 0) y.s w1 w2
      have hn2 := hn2 he
      obtain ⟨c1, s1, hr⟩ : ∃ c1 s1, cStep (y.c 0) y.s = (c1, s1) := ⟨_, _, rfl⟩
      rw [hr] at a1
      dsimp only at a1 hn2
      rw [hr] at hn2
      dsimp only at hn2
      rw [he]
      (refine go ?_; try exact True.intro)
      by_cases hph : c1.ph = 2
      · rw [decide_eq_true hph] at a1
        rw [Onc.next_ret he hr hph] at hn1
        have er := cResultC c1 s1
        have hn2 := hn2 hph
        cases hdn : c1.done with
        | true =>
          rw [hdn] at er
          rw [if_pos hdn] at hn1
          have hfst := hn2 hdn
          refine callL a1 [some 10, some 384, some 385, some 1, some 387, some 388] [] rfl ?_
          (refine go ?_; try exact True.intro)
          refine callL er [some 10, some 384, some 385, some 3840, some 387, some 388] [] rfl ?_
          (refine go ?_; try exact True.intro)
          rw [hfst]
          (refine go ?_; try exact True.intro)
          refine .mk [(1, 3840)] _ hn1 (by dsimp only; omega) ?_
          (refine go ?_; try exact True.intro)
        | false =>
          rw [hdn] at er
          rw [if_neg (by rw [hdn]; decide)] at hn1
          refine callL a1 [some 10, some 384, some 385, some 1, some 387, some 388] [] rfl ?_
          (refine go ?_; try exact True.intro)
          refine callL er [some 10, some 384, some 385, some 3840, some 387, some 388] [] rfl ?_
          (refine go ?_; try exact True.intro)
          refine .mk [(1, 3840)] _ hn1 (by dsimp only; omega) ?_
          (refine go ?_; try exact True.intro)
      · rw [decide_eq_false hph] at a1
        rw [Onc.next_run he hr hph] at hn1
        refine callL a1 [some 10, some 384, some 385, some 1, some 387, some 388] [] rfl ?_
        (refine go ?_; try exact True.intro)
        refine .mk [(1, 3840)] _ hn1 (by dsimp only; omega) ?_
        (refine go ?_; try exact True.intro)
  · rcases Bool.eq_false_or_eq_true (y.e 1) with he | he
    · skip
      (refine go ?_; try exact True.intro)
      rw [Onc.next_yes he] at hn1
      rw [he]
      (refine go ?_; try exact True.intro)
      refine .mk [] _ hn1 (by dsimp only; omega) ?_
      (refine go ?_; try exact True.intro)
    · skip
      (refine go ?_; try exact True.intro)
      obtain ⟨w1, w2⟩ := hok' 1 (by decide) he
      have a1 := cStepC (y.c 1) y.s w1 w2
      have hn2 := hn2 he
      obtain ⟨c1, s1, hr⟩ : ∃ c1 s1, cStep (y.c 1) y.s = (c1, s1) := ⟨_, _, rfl⟩
      rw [hr] at a1
      dsimp only at a1 hn2
      rw [hr] at hn2
      dsimp only at hn2
      rw [he]
      (refine go ?_; try exact True.intro)
      by_cases hph : c1.ph = 2
      · rw [decide_eq_true hph] at a1
        rw [Onc.next_ret he hr hph] at hn1
        have er := cResultC c1 s1
        have hn2 := hn2 hph
        cases hdn : c1.done with
        | true =>
          rw [hdn] at er
          rw [if_pos hdn] at hn1
          have hfst := hn2 hdn
          refine callL a1 [some 11, some 384, some 385, some 1, some 387, some 388] [] rfl ?_
          (refine go ?_; try exact True.intro)
          refine callL er [some 11, some 384, some 385, some 3840, some 387, some 388] [] rfl ?_
          (refine go ?_; try exact True.intro)
          rw [hfst]
          (refine go ?_; try exact True.intro)
          refine .mk [(1, 3840)] _ hn1 (by dsimp only; omega) ?_
          (refine go ?_; try exact True.intro)
        | false =>
          rw [hdn] at er
          rw [if_neg (by rw [hdn]; decide)] at hn1
          refine callL a1 [some 11, some 384, some 385, some 1, some 387, some 388] [] rfl ?_
          (refine go ?_; try exact True.intro)
          refine callL er [some 11, some 384, some 385, some 3840, some 387, some 388] [] rfl ?_
          (refine go ?_; try exact True.intro)
          refine .mk [(1, 3840)] _ hn1 (by dsimp only; omega) ?_
          (refine go ?_; try exact True.intro)
      · rw [decide_eq_false hph] at a1
        rw [Onc.next_run he hr hph] at hn1
        refine callL a1 [some 11, some 384, some 385, some 1, some 387, some 388] [] rfl ?_
        (refine go ?_; try exact True.intro)
        refine .mk [(1, 3840)] _ hn1 (by dsimp only; omega) ?_
        (refine go ?_; try exact True.intro)
  · rcases Bool.eq_false_or_eq_true (y.e 2) with he | he
    · skip
      (refine go ?_; try exact True.intro)
      rw [Onc.next_yes he] at hn1
      rw [he]
      (refine go ?_; try exact True.intro)
      refine .mk [] _ hn1 (by dsimp only; omega) ?_
      (refine go ?_; try exact True.intro)
    · skip
      (refine go ?_; try exact True.intro)
      obtain ⟨w1, w2⟩ := hok' 2 (by decide) he
      have a1 := cStepC (y.c 2) y.s w1 w2
      have hn2 := hn2 he
      obtain ⟨c1, s1, hr⟩ : ∃ c1 s1, cStep (y.c 2) y.s = (c1, s1) := ⟨_, _, rfl⟩
      rw [hr] at a1
      dsimp only at a1 hn2
      rw [hr] at hn2
      dsimp only at hn2
      rw [he]
      (refine go ?_; try exact True.intro)
      by_cases hph : c1.ph = 2
      · rw [decide_eq_true hph] at a1
        rw [Onc.next_ret he hr hph] at hn1
        have er := cResultC c1 s1
        have hn2 := hn2 hph
        cases hdn : c1.done with
        | true =>
          rw [hdn] at er
          rw [if_pos hdn] at hn1
          have hfst := hn2 hdn
          refine callL a1 [some 12, some 384, some 385, some 1, some 387, some 388] [] rfl ?_
          (refine go ?_; try exact True.intro)
          refine callL er [some 12, some 384, some 385, some 3840, some 387, some 388] [] rfl ?_
          (refine go ?_; try exact True.intro)
          rw [hfst]
          (refine go ?_; try exact True.intro)
          refine .mk [(1, 3840)] _ hn1 (by dsimp only; omega) ?_
          (refine go ?_; try exact True.intro)
        | false =>
          rw [hdn] at er
          rw [if_neg (by rw [hdn]; decide)] at hn1
          refine callL a1 [some 12, some 384, some 385, some 1, some 387, some 388] [] rfl ?_
          (refine go ?_; try exact True.intro)
          refine callL er [some 12, some 384, some 385, some 3840, some 387, some 388] [] rfl ?_
          (refine go ?_; try exact True.intro)
          refine .mk [(1, 3840)] _ hn1 (by dsimp only; omega) ?_
          (refine go ?_; try exact True.intro)
      · rw [decide_eq_false hph] at a1
        rw [Onc.next_run he hr hph] at hn1
        refine callL a1 [some 12, some 384, some 385, some 1, some 387, some 388] [] rfl ?_
        (refine go ?_; try exact True.intro)
        refine .mk [(1, 3840)] _ hn1 (by dsimp only; omega) ?_
        (refine go ?_; try exact True.intro)
  · rcases Bool.eq_false_or_eq_true (y.e 3) with he | he
    · skip
      (refine go ?_; try exact True.intro)
      rw [Onc.next_yes he] at hn1
      rw [he]
      (refine go ?_; try exact True.intro)
      refine .mk [] _ hn1 (by dsimp only; omega) ?_
      (refine go ?_; try exact True.intro)
    · skip
      (refine go ?_; try exact True.intro)
      obtain ⟨w1, w2⟩ := hok' 3 (by decide) he
      have a1 := cStepC (y.c 3) y.s w1 w2
      have hn2 := hn2 he
      obtain ⟨c1, s1, hr⟩ : ∃ c1 s1, cStep (y.c 3) y.s = (c1, s1) := ⟨_, _, rfl⟩
      rw [hr] at a1
      dsimp only at a1 hn2
      rw [hr] at hn2
      dsimp only at hn2
      rw [he]
      (refine go ?_; try exact True.intro)
      by_cases hph : c1.ph = 2
      · rw [decide_eq_true hph] at a1
        rw [Onc.next_ret he hr hph] at hn1
        have er := cResultC c1 s1
        have hn2 := hn2 hph
        cases hdn : c1.done with
        | true =>
          rw [hdn] at er
          rw [if_pos hdn] at hn1
          have hfst := hn2 hdn
          refine callL a1 [some 13, some 384, some 385, some 1, some 387, some 388] [] rfl ?_
          (refine go ?_; try exact True.intro)
          refine callL er [some 13, some 384, some 385, some 3840, some 387, some 388] [] rfl ?_
          (refine go ?_; try exact True.intro)
          rw [hfst]
          (refine go ?_; try exact True.intro)
          refine .mk [(1, 3840)] _ hn1 (by dsimp only; omega) ?_
          (refine go ?_; try exact True.intro)
        | false =>
          rw [hdn] at er
          rw [if_neg (by rw [hdn]; decide)] at hn1
          refine callL a1 [some 13, some 384, some 385, some 1, some 387, some 388] [] rfl ?_
          (refine go ?_; try exact True.intro)
          refine callL er [some 13, some 384, some 385, some 3840, some 387, some 388] [] rfl ?_
          (refine go ?_; try exact True.intro)
          refine .mk [(1, 3840)] _ hn1 (by dsimp only; omega) ?_
          (refine go ?_; try exact True.intro)
      · rw [decide_eq_false hph] at a1
        rw [Onc.next_run he hr hph] at hn1
        refine callL a1 [some 13, some 384, some 385, some 1, some 387, some 388] [] rfl ?_
        (refine go ?_; try exact True.intro)
        refine .mk [(1, 3840)] _ hn1 (by dsimp only; omega) ?_
        (refine go ?_; try exact True.intro)
end Go.Proofs.YtcffiehcdadimaaGreat.Abs
