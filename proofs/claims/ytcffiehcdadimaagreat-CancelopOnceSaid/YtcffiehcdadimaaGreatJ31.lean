/- Laws of cancellations: one of four calls of one handle succeeds, the first that ends. -/
import Derived.Test.YtcffiehcdadimaaGreatJ30
namespace Go.Proofs.YtcffiehcdadimaaGreat.Abs
open Go.Proofs
set_option maxRecDepth 10000
set_option linter.unusedSimpArgs false
set_option linter.unusedVariables false
/-- how many times i .. L thread t is picked in turn -/
def turns (L i t : Nat) : Nat := (i + 3 - t) / 4 - (L + 3 - t) / 4
theorem upd_at {α : Type} (f : Nat → α) (t j : Nat) (v : α) : upd f t v j = if j = t then v else f j := by
  unfold upd; split <;> rfl
/-- how many steps a call has before it, at most -/
def rk (ph : Int) (good : Nat) : Nat := if ph = 1 then 2 else if good = 0 then 3 else 1
theorem rk_le (ph : Int) (good : Nat) : rk ph good ≤ 3 := by
  unfold rk; split
  · omega
  · split <;> omega
/-- what both kinds of runs keep -/
structure OnceB (h : Int) (n L LL : Nat) (x : Onc) : Prop where
  i : x.i ≤ L + 40
  wds : Wds x.s 967
  len : x.s.slots.length = n
  log : x.s.m.log.length ≤ LL + x.i
  hh : ∀ t, t < 4 → (x.c t).h = h
  dn : ∀ t, t < 4 → x.e t = false → (x.c t).done = false
/-- the handle refers to no pending event: every call ends in its first step -/
structure OnceN (h : Int) (n L LL : Nat) (x : Onc) : Prop extends OnceB h n L LL x where
  good : x.good = 0
  ph : ∀ t, t < 4 → x.e t = false → (x.c t).ph = 0
  bad : ∀ k : Nat, slotH h = k → k < n → staleW (x.s.m.word (k + 1)) (genH h) = true
  rank : L ≤ x.i → ∀ t, t < 4 → x.e t = true ∨ turns L x.i t = 0
theorem onceN_next {h : Int} {n L LL : Nat} {x : Onc} (hx : OnceN h n L LL x) (hi : x.i < L + 40) {t : Nat} (ht : t < 4) (hp : L ≤ x.i → x.i % 4 = t) (hl : LL + L + 40 < 999999) :
    OnceN h n L LL (x.next t) ∧ (x.e t = false → (cStep (x.c t) x.s).1.ph = 2 → (cStep (x.c t) x.s).1.done = true → x.first = true) := by
  obtain ⟨⟨h1, h2, h3, h4, h5, h6⟩, h7, h8, h9, h10⟩ := hx
  have hturn : L ≤ x.i → ∀ j, j < 4 → j ≠ t → turns L (x.i + 1) j = turns L x.i j := fun hL j hj hne => by
    have := hp hL
    unfold turns; omega
  rcases Bool.eq_false_or_eq_true (x.e t) with he | he
  · rw [Onc.next_yes he]
    refine ⟨⟨⟨hi, h2, h3, by dsimp only; omega, h5, h6⟩, h7, h8, h9, fun hL j hj => ?_⟩, fun e => by rw [he] at e; cases e⟩
    dsimp only at hL ⊢
    by_cases c : j = t
    · subst c; exact .inl he
    · by_cases hL' : L ≤ x.i
      · rw [hturn hL' j hj c]; exact h10 hL' j hj
      · refine .inr ?_
        unfold turns; omega
  · have hc : COk (x.c t) 967 := ⟨fun y => by have := h8 t ht he; omega, fun y => by rw [h6 t ht he] at y; cases y⟩
    have hph : (cStep (x.c t) x.s).1.ph = 2 ∧ (cStep (x.c t) x.s).1.done = false := by
      by_cases hh : (x.c t).has x.s
      · have b1 := cStep_load hh (by rw [h8 t ht he]; decide)
        have hh' := hh
        unfold COp.has at hh'
        rw [h5 t ht] at hh'
        have hsl : slotH h = ((x.c t).sl : Int) := by unfold COp.sl; rw [h5 t ht]; omega
        have hb := h9 _ hsl (by omega)
        rw [b1]
        unfold COp.load
        rw [show ((x.c t).cl).h = (x.c t).h from rfl, h5 t ht, hb, if_pos rfl]
        exact ⟨rfl, h6 t ht he⟩
      · rw [cStep_none hh]
        exact ⟨rfl, h6 t ht he⟩
    obtain ⟨d1, d2, d3, _, _, _, _, _, _, _, d4⟩ := cStep_same (x.c t) x.s
    have hw := cStep_word (x.c t) x.s h2.lt
    have hst := h2.step hc (by decide) (by omega)
    obtain ⟨c1, s1, hr⟩ : ∃ c1 s1, cStep (x.c t) x.s = (c1, s1) := ⟨_, _, rfl⟩
    rw [hr] at hph d1 d2 d3 d4 hst hw ⊢
    dsimp only at hph d1 d2 d3 d4 hst hw ⊢
    refine ⟨?_, fun _ _ e => by rw [hph.2] at e; cases e⟩
    rw [Onc.next_ret he hr hph.1]
    refine ⟨⟨hi, hst, by dsimp only; rw [d3]; exact h3, by dsimp only; omega, fun j hj => ?_, fun j hj ej => ?_⟩, ?_, fun j hj ej => ?_, fun k hk hkn => ?_, fun hL j hj => ?_⟩
    · dsimp only
      rw [upd_at]
      split
      · rw [d2]; exact h5 t ht
      · exact h5 j hj
    · dsimp only at ej ⊢
      rw [upd_at] at ej ⊢
      split at ej
      · cases ej
      · next c => rw [if_neg c]; exact h6 j hj ej
    · dsimp only
      rw [if_neg (by rw [hph.2]; decide)]; exact h7
    · dsimp only at ej ⊢
      rw [upd_at] at ej ⊢
      split at ej
      · cases ej
      · next c => rw [if_neg c]; exact h8 j hj ej
    · dsimp only
      rw [hw, if_neg (fun y => by have := h8 t ht he; have := y.2.1; omega)]
      exact h9 k hk hkn
    · dsimp only at hL ⊢
      rw [upd_at]
      by_cases c : j = t
      · rw [if_pos c]; exact .inl rfl
      · rw [if_neg c]
        by_cases hL' : L ≤ x.i
        · rw [hturn hL' j hj c]; exact h10 hL' j hj
        · refine .inr ?_
          unfold turns; omega
/-- the handle refers to the pending event of slot k, its word w -/
structure OnceP (h : Int) (k : Nat) (w : Int) (n L LL : Nat) (x : Onc) : Prop extends OnceB h n L LL x where
  wd : (x.good = 0 ∧ x.first = true ∧ x.s.m.word (k + 1) = w ∧ ∀ t, t < 4 → x.e t = false) ∨ (x.good = 1 ∧ x.s.m.word (k + 1) = 4 * (w / 4) + 3)
  ph : ∀ t, t < 4 → x.e t = false → (x.c t).ph = 0 ∨ ((x.c t).ph = 1 ∧ (x.c t).seen = w)
  rank : L ≤ x.i → ∀ t, t < 4 → x.e t = true ∨ rk (x.c t).ph x.good + turns L x.i t ≤ 3
theorem onceP_next {h : Int} {k : Nat} {w : Int} {n L LL : Nat} {x : Onc} (hx : OnceP h k w n L LL x) (hk : slotH h = k) (hkn : k < n) (hw0 : 0 ≤ w ∧ w ≤ 967) (hw1 : w % 4 = 1) (hwg : w / 4 = genH h) (hi : x.i < L + 40) {t : Nat} (ht : t < 4) (hp : L ≤ x.i → x.i % 4 = t) (hl : LL + L + 40 < 999999) :
    OnceP h k w n L LL (x.next t) ∧ (x.e t = false → (cStep (x.c t) x.s).1.ph = 2 → (cStep (x.c t) x.s).1.done = true → x.first = true) := by
  obtain ⟨⟨h1, h2, h3, h4, h5, h6⟩, h7, h8, h10⟩ := hx
  have hturn : L ≤ x.i → ∀ j, j < 4 → turns L (x.i + 1) j = turns L x.i j + if j = t then 1 else 0 := fun hL j hj => by
    have := hp hL
    unfold turns
    split <;> omega
  have hturn0 : ¬ L ≤ x.i → L ≤ x.i + 1 → ∀ j, j < 4 → turns L (x.i + 1) j = 0 := fun h hL j hj => by unfold turns; omega
  rcases Bool.eq_false_or_eq_true (x.e t) with he | he
  · rw [Onc.next_yes he]
    refine ⟨⟨⟨hi, h2, h3, by dsimp only; omega, h5, h6⟩, h7, h8, fun hL j hj => ?_⟩, fun e => by rw [he] at e; cases e⟩
    dsimp only at hL ⊢
    by_cases c : j = t
    · subst c; exact .inl he
    · by_cases hL' : L ≤ x.i
      · have := h10 hL' j hj
        rw [hturn hL' j hj, if_neg c]; exact this
      · rw [hturn0 hL' hL j hj]
        exact .inr (rk_le _ _)
  · have hc : COk (x.c t) 967 := ⟨fun y => by rcases h8 t ht he with e | e <;> omega, fun y => by rw [h6 t ht he] at y; cases y⟩
    have hh : (x.c t).has x.s := by unfold COp.has; rw [h5 t ht, hk, h3]; omega
    have hsl : (x.c t).sl = k := by unfold COp.sl; rw [h5 t ht, hk]; rfl
    obtain ⟨d1, d2, d3, _, _, _, _, _, _, _, d4⟩ := cStep_same (x.c t) x.s
    have hst := h2.step hc (by decide) (by omega)
    have hwd := cStep_word (x.c t) x.s h2.lt (k + 1)
    rw [hsl] at hwd
    -- what the step does
    have key : ((cStep (x.c t) x.s).1.ph = 2 ∧ (cStep (x.c t) x.s).1.done = true ∧ x.good = 0 ∧ (cStep (x.c t) x.s).2.m.word (k + 1) = 4 * (w / 4) + 3) ∨
        ((cStep (x.c t) x.s).1.ph = 2 ∧ (cStep (x.c t) x.s).1.done = false ∧ x.good = 1 ∧ (cStep (x.c t) x.s).2.m.word (k + 1) = x.s.m.word (k + 1) ∧ (x.c t).ph = 0) ∨
        ((cStep (x.c t) x.s).1.ph = 1 ∧ (cStep (x.c t) x.s).1.seen = w ∧ (cStep (x.c t) x.s).1.done = false ∧ x.good = 0 ∧ (x.c t).ph = 0 ∧ (cStep (x.c t) x.s).2.m.word (k + 1) = x.s.m.word (k + 1)) ∨
        ((cStep (x.c t) x.s).1.ph = 0 ∧ (cStep (x.c t) x.s).1.done = false ∧ x.good = 1 ∧ (x.c t).ph = 1 ∧ (cStep (x.c t) x.s).2.m.word (k + 1) = x.s.m.word (k + 1)) := by
      rcases h8 t ht he with e | ⟨e, es⟩
      · have b1 := cStep_load hh (by rw [e]; decide)
        rw [hsl] at b1
        have hwd' : (cStep (x.c t) x.s).2.m.word (k + 1) = x.s.m.word (k + 1) := by rw [hwd, if_neg (fun y => by have := y.2.1; omega)]
        rcases h7 with ⟨g0, _, g1, _⟩ | ⟨g0, g1⟩
        · have hsw : staleW w (genH h) = false := by
            unfold staleW
            rw [decide_eq_true hwg, decide_eq_false (by omega), decide_eq_false (by omega)]; rfl
          refine .inr (.inr (.inl ?_))
          rw [b1, g1]
          unfold COp.load
          rw [show ((x.c t).cl).h = (x.c t).h from rfl, h5 t ht, hsw, if_neg (by decide), if_neg (by omega)]
          exact ⟨rfl, rfl, h6 t ht he, g0, e, by rw [hwd', g1]⟩
        · have hsw : staleW (4 * (w / 4) + 3) (genH h) = true := by
            unfold staleW
            rw [decide_eq_true (show (4 * (w / 4) + 3) / 4 = genH h by omega), decide_eq_true (show (4 * (w / 4) + 3) % 4 = 3 by omega)]
            simp
          refine .inr (.inl ?_)
          rw [b1, g1]
          unfold COp.load
          rw [show ((x.c t).cl).h = (x.c t).h from rfl, h5 t ht, hsw, if_pos rfl]
          exact ⟨rfl, h6 t ht he, g0, by rw [hwd', g1], e⟩
      · have b1 := cStep_swap hh e
        rw [hsl, es] at b1
        rcases h7 with ⟨g0, _, g1, _⟩ | ⟨g0, g1⟩
        · rw [g1, decide_eq_true rfl] at b1
          refine .inl ?_
          rw [b1]
          refine ⟨rfl, rfl, g0, ?_⟩
          rw [hwd, if_pos ⟨hh, e, rfl, by rw [g1, es]⟩]
          unfold COp.new
          rw [es]
        · rw [g1, decide_eq_false (by omega)] at b1
          refine .inr (.inr (.inr ?_))
          rw [b1]
          refine ⟨rfl, h6 t ht he, g0, e, ?_⟩
          rw [hwd, if_neg (fun y => by have := y.2.2.2; omega)]
    obtain ⟨c1, s1, hr⟩ : ∃ c1 s1, cStep (x.c t) x.s = (c1, s1) := ⟨_, _, rfl⟩
    rw [hr] at d1 d2 d3 d4 hst hwd key ⊢
    dsimp only at d1 d2 d3 d4 hst hwd key ⊢
    have hhj : ∀ j, j < 4 → (upd x.c t c1 j).h = h := fun j hj => by
      rw [upd_at]
      split
      · rw [d2]; exact h5 t ht
      · exact h5 j hj
    rcases key with ⟨k1, k2, k3, k4⟩ | ⟨k1, k2, k3, k4, k5⟩ | ⟨k1, k2, k3, k4, k5, k6⟩ | ⟨k1, k2, k3, k4, k5⟩
    · -- it succeeds
      have hall : ∀ j, j < 4 → x.e j = false := by
        rcases h7 with ⟨_, _, _, g⟩ | ⟨g, _⟩
        · exact g
        · omega
      have hfst : x.first = true := by
        rcases h7 with ⟨_, g, _, _⟩ | ⟨g, _⟩
        · exact g
        · omega
      rw [Onc.next_ret he hr k1]
      refine ⟨⟨⟨hi, hst, by dsimp only; rw [d3]; exact h3, by dsimp only; omega, hhj, fun j hj ej => ?_⟩, .inr ⟨?_, k4⟩, fun j hj ej => ?_, fun hL j hj => ?_⟩, fun _ _ _ => hfst⟩
      · dsimp only at ej ⊢
        rw [upd_at] at ej ⊢
        split at ej
        · cases ej
        · next c => rw [if_neg c]; exact h6 j hj ej
      · dsimp only; rw [if_pos k2, k3]
      · dsimp only at ej ⊢
        rw [upd_at] at ej ⊢
        split at ej
        · cases ej
        · next c => rw [if_neg c]; exact h8 j hj ej
      · dsimp only at hL ⊢
        rw [upd_at, upd_at, if_pos k2, k3]
        by_cases c : j = t
        · rw [if_pos c]; exact .inl rfl
        · rw [if_neg c, if_neg c]
          refine .inr ?_
          by_cases hL' : L ≤ x.i
          · have := (h10 hL' j hj).resolve_left (by rw [hall j hj]; decide)
            rw [hturn hL' j hj, if_neg c]
            rw [k3] at this
            unfold rk at this ⊢
            split at this
            · next q => rw [if_pos q]; omega
            · next q => rw [if_neg q, if_neg (by decide)]; rw [if_pos rfl] at this; omega
          · rw [hturn0 hL' hL j hj]
            exact rk_le _ _
    · -- it finds the event cancelled
      rw [Onc.next_ret he hr k1]
      refine ⟨⟨⟨hi, hst, by dsimp only; rw [d3]; exact h3, by dsimp only; omega, hhj, fun j hj ej => ?_⟩, .inr ⟨?_, ?_⟩, fun j hj ej => ?_, fun hL j hj => ?_⟩, fun _ _ e => by rw [k2] at e; cases e⟩
      · dsimp only at ej ⊢
        rw [upd_at] at ej ⊢
        split at ej
        · cases ej
        · next c => rw [if_neg c]; exact h6 j hj ej
      · dsimp only; rw [if_neg (by rw [k2]; decide), k3]
      · dsimp only
        rw [k4]
        rcases h7 with ⟨g, _⟩ | ⟨_, g⟩
        · omega
        · exact g
      · dsimp only at ej ⊢
        rw [upd_at] at ej ⊢
        split at ej
        · cases ej
        · next c => rw [if_neg c]; exact h8 j hj ej
      · dsimp only at hL ⊢
        rw [upd_at, upd_at, if_neg (show ¬ c1.done = true by rw [k2]; decide)]
        by_cases c : j = t
        · rw [if_pos c]; exact .inl rfl
        · rw [if_neg c, if_neg c]
          by_cases hL' : L ≤ x.i
          · have := h10 hL' j hj
            rw [hturn hL' j hj, if_neg c]; exact this
          · rw [hturn0 hL' hL j hj]
            exact .inr (rk_le _ _)
    · -- it sees the event
      rw [Onc.next_run he hr (by rw [k1]; decide)]
      have hall : x.first = true ∧ x.s.m.word (k + 1) = w ∧ ∀ j, j < 4 → x.e j = false := by
        rcases h7 with ⟨_, g⟩ | ⟨g, _⟩
        · exact g
        · omega
      refine ⟨⟨⟨hi, hst, by dsimp only; rw [d3]; exact h3, by dsimp only; omega, hhj, fun j hj ej => ?_⟩, .inl ⟨k4, hall.1, by dsimp only; rw [k6]; exact hall.2.1, hall.2.2⟩, fun j hj ej => ?_, fun hL j hj => ?_⟩, fun _ e => by rw [k1] at e; cases e⟩
      · dsimp only at ej ⊢
        rw [upd_at]
        split
        · exact k3
        · exact h6 j hj ej
      · dsimp only at ej ⊢
        rw [upd_at]
        split
        · exact .inr ⟨k1, k2⟩
        · exact h8 j hj ej
      · dsimp only at hL ⊢
        rw [upd_at]
        refine .inr ?_
        by_cases hL' : L ≤ x.i
        · have := (h10 hL' j hj).resolve_left (by rw [hall.2.2 j hj]; decide)
          rw [hturn hL' j hj]
          by_cases c : j = t
          · rw [if_pos c, if_pos c, k1]
            subst c
            rw [k5, k4] at this
            unfold rk at this ⊢
            rw [if_neg (by decide), if_pos rfl] at this
            rw [if_pos rfl]
            omega
          · rw [if_neg c, if_neg c]; exact this
        · rw [hturn0 hL' hL j hj]
          exact rk_le _ _
    · -- the word was changed
      rw [Onc.next_run he hr (by rw [k1]; decide)]
      have hwd2 : x.s.m.word (k + 1) = 4 * (w / 4) + 3 := by
        rcases h7 with ⟨g, _⟩ | ⟨_, g⟩
        · omega
        · exact g
      refine ⟨⟨⟨hi, hst, by dsimp only; rw [d3]; exact h3, by dsimp only; omega, hhj, fun j hj ej => ?_⟩, .inr ⟨k3, by dsimp only; rw [k5]; exact hwd2⟩, fun j hj ej => ?_, fun hL j hj => ?_⟩, fun _ e => by rw [k1] at e; cases e⟩
      · dsimp only at ej ⊢
        rw [upd_at]
        split
        · exact k2
        · exact h6 j hj ej
      · dsimp only at ej ⊢
        rw [upd_at]
        split
        · exact .inl k1
        · exact h8 j hj ej
      · dsimp only at hL ⊢
        rw [upd_at]
        by_cases hL' : L ≤ x.i
        · have := h10 hL' j hj
          rw [hturn hL' j hj]
          by_cases c : j = t
          · subst c
            rw [if_pos rfl, if_pos rfl, k1]
            refine .inr ?_
            have := this.resolve_left (by rw [he]; decide)
            rw [k4, k3] at this
            rw [k3]
            unfold rk at this ⊢
            rw [if_pos rfl] at this
            rw [if_neg (by decide), if_neg (by decide)]
            omega
          · rw [if_neg c, if_neg c]; exact this
        · rw [hturn0 hL' hL j hj]
          exact .inr (rk_le _ _)
theorem once_long (c raw : Int) (l : List OpS) (picks : List Int) {n : Nat} (s : Sto) (hsz : PSpec Tryz.prog 15 [.c (.int .u8 c)] (V.int n))
    (hp : LSpec Tryz.prog 14 [V.int n, opsSV l] [] 0 (.tup [.p 0 10 0 0, .p 5 10 0 0]) (stoB s 2 ++ rstoAt s 5 7) 10) (hg : 200 < picks.length) :
    PSpec Tryz.prog 3 [.c (.int .u8 c), opsSV l, V.int raw, u8sV picks] (V.bool true) := by
  have hml : (picks.map u8D).length = picks.length := List.length_map ..
  refine pspec tab_ok mix Tryz.func3 (by kernel_rfl) rfl rfl ?_
  (refine go ?_; try exact True.intro)
  refine callB head13C ?_
  (refine go ?_; try exact True.intro)
  refine callB hsz ?_
  (refine go ?_; try exact True.intro)
  refine callL hp [] [] rfl ?_
  (refine go ?_; try exact True.intro)
  rw [hml, decide_eq_true (show (200 : Int) < picks.length by omega)]
  (refine go ?_; try exact True.intro)
  exact .same rfl
theorem cancelopOnce (c : Int) (hc : 0 ≤ c ∧ c ≤ 255) (l : List OpS) (hl : ∀ o ∈ l, o.Ok) (raw : Int) (picks : List Int) (hpk : ∀ y ∈ picks, 0 ≤ y ∧ y ≤ 255) :
    PSpec Tryz.prog 3 [.c (.int .u8 c), opsSV l, V.int raw, u8sV picks] (V.bool true) := by
  obtain ⟨_, hn⟩ := capN_ok hc.1
  have hsz := sizeC c hc
  have hp := preparedC hn l hl
  have hr := prep_ready hn hl
  generalize prepS (capN c) l = s at *
  generalize (runF (capN c) l (min l.length 60)).2 = S at *
  generalize capN c = n at *
  have hw : Wds s 967 := hr.ok.wds
  have hs := hr.ok.shown
  have hns := hr.ok.ns
  have hl9 := hr.ok.log
  have hh := handleC s hw (by omega) raw
  have hpcs := pics_len s
  by_cases hpl : picks.length ≤ 200
  case neg => exact once_long c raw l picks s hsz hp (by omega)
  have hb0 : OnceB (s.hndl raw) n picks.length 2420 ⟨0, s, fun t => ⟨t, s.hndl raw, 0, 0, false, false⟩, fun _ => false, 0, true⟩ :=
    ⟨Nat.zero_le _, hw, hns, by dsimp only; omega, fun _ _ => rfl, fun _ _ _ => rfl⟩
  have hpick : ∀ i, picks.length ≤ i → i % 4 = pickAt picks i := fun i hi => (pickAt_out hi).2.symm
  by_cases hpd : ∃ k : Nat, slotH (s.hndl raw) = k ∧ k < n ∧ s.m.word (k + 1) / 4 = genH (s.hndl raw) ∧ s.m.word (k + 1) % 4 = 1
  · obtain ⟨k, k1, k2, k3, k4⟩ := hpd
    have hwk := hw.wd k (by omega)
    have hx := pics_get (s := s) (p := k) (by omega)
    have hfa := findA_at k1 hx
    rw [if_pos ⟨k3, by show s.m.word (k + 1) % 4 ≠ 0; omega⟩] at hfa
    refine once_walk c raw l picks hpk s S (s.pic k) true 967 (OnceP (s.hndl raw) k (s.m.word (k + 1)) n picks.length 2420) hsz hp hh hs (lookupYes s.pics s.idle s.next _ (by omega) hfa hx)
      ⟨hb0, .inl ⟨rfl, rfl, rfl, fun _ _ => rfl⟩, fun _ _ _ => .inl rfl, fun hL t ht => ?_⟩ (fun y hy => ⟨hy.i, by rcases hy.wd with e | e <;> omega⟩) (fun y t hy ht he => ⟨hy.wds, fun e => by rcases hy.ph t ht he with q | q <;> omega, fun e => by rw [hy.dn t ht he] at e; cases e⟩)
      (fun y hy hi => onceP_next hy k1 k2 hwk k4 k3 hi (pickAt_lt hpk y.i) (hpick y.i) (by omega)) (fun y hy hi => ?_)
    · dsimp only at hL ⊢
      unfold turns rk
      rw [if_neg (by decide), if_pos rfl]
      omega
    · have hr : ∀ t, t < 4 → y.e t = true := fun t ht => by
        refine (hy.rank (by omega) t ht).resolve_right fun h => ?_
        unfold turns at h
        rw [hi] at h
        omega
      refine ⟨?_, hr 0 (by decide), hr 1 (by decide), hr 2 (by decide), hr 3 (by decide)⟩
      rw [decide_eq_true (show (s.pic k).state = 1 from k4)]
      rcases hy.wd with ⟨_, _, _, e⟩ | ⟨e, _⟩
      · have := hr 0 (by decide)
        rw [e 0 (by decide)] at this
        cases this
      · exact e
  · have hbad : ∀ k : Nat, slotH (s.hndl raw) = k → k < n → staleW (s.m.word (k + 1)) (genH (s.hndl raw)) = true := fun k k1 k2 => by
      have h1 := hr.noc k k2
      unfold Sto.st at h1
      cases hsw : staleW (s.m.word (k + 1)) (genH (s.hndl raw)) with
      | true => rfl
      | false =>
        exfalso
        unfold staleW at hsw
        simp only [Bool.or_eq_false_iff, Bool.not_eq_false', decide_eq_true_eq, decide_eq_false_iff_not] at hsw
        exact hpd ⟨k, k1, k2, hsw.1, by omega⟩
    obtain ⟨x, lv, hlk, hg⟩ : ∃ x lv, PSpec Tryz.prog 17 [arenaV s.pics s.idle s.next, V.int (s.hndl raw)] (.tup [Slt.v x, V.bool lv]) ∧ (lv && decide (x.state = 1)) = false := by
      cases hfa : findA s.pics (s.hndl raw) with
      | none => exact ⟨_, _, lookupNo s.pics s.idle s.next _ (by omega) hfa, rfl⟩
      | some k =>
        have hfa' := hfa
        unfold findA at hfa'
        split at hfa'
        · next hq =>
          cases hfa'
          have hks : (slotH (s.hndl raw)).toNat < s.slots.length := by omega
          have hx := pics_get hks
          refine ⟨_, _, lookupYes s.pics s.idle s.next _ (by omega) hfa hx, ?_⟩
          have hq3 := hq.2.2.1
          rw [hx, Option.getD_some] at hq3
          rw [decide_eq_false (show ¬ (s.pic (slotH (s.hndl raw)).toNat).state = 1 from fun e => hpd ⟨_, by omega, by omega, hq3, e⟩)]
          rfl
        · cases hfa'
    refine once_walk c raw l picks hpk s S x lv 967 (OnceN (s.hndl raw) n picks.length 2420) hsz hp hh hs hlk
      ⟨hb0, rfl, fun _ _ _ => rfl, hbad, fun hL t ht => ?_⟩ (fun y hy => ⟨hy.i, by have := hy.good; omega⟩) (fun y t hy ht he => ⟨hy.wds, fun e => by have := hy.ph t ht he; omega, fun e => by rw [hy.dn t ht he] at e; cases e⟩)
      (fun y hy hi => onceN_next hy hi (pickAt_lt hpk y.i) (hpick y.i) (by omega)) (fun y hy hi => ?_)
    · dsimp only at hL ⊢
      refine .inr ?_
      unfold turns
      omega
    · have hr : ∀ t, t < 4 → y.e t = true := fun t ht => by
        refine (hy.rank (by omega) t ht).resolve_right fun h => ?_
        unfold turns at h
        rw [hi] at h
        omega
      refine ⟨?_, hr 0 (by decide), hr 1 (by decide), hr 2 (by decide), hr 3 (by decide)⟩
      rw [hg]; exact hy.good
end Go.Proofs.YtcffiehcdadimaaGreat.Abs
