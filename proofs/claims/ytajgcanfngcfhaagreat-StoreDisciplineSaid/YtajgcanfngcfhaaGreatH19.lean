/- Laws of stores as contracts: handles. -/
import Derived.Test.YtajgcanfngcfhaaGreatH18
namespace Go.Proofs.YtajgcanfngcfhaaGreat.Abs
open Go.Proofs
set_option maxRecDepth 10000
set_option linter.unusedSimpArgs false
set_option linter.unusedVariables false
def liveN (l : List Slt) : Nat := (l.filter fun x => decide (x.state ≠ 0)).length
theorem liveC (l : List Slt) (idle : List Int) (next : Int) (hl : l.length < 1000000) : PSpec Tryz.prog 28 [arenaV l idle next] (V.int (liveN l)) := by
  have hle : ∀ i, liveN (l.take i) ≤ l.length := fun i => by
    have h1 := List.length_filter_le (fun x : Slt => decide (x.state ≠ 0)) (l.take i)
    unfold liveN
    have h2 := List.length_take_le i l
    rw [List.length_take] at h1
    omega
  refine pspec tab_ok mix Tryz.func28 (by kernel_rfl) rfl rfl ?_
  ((conv => whnf); (repeat (first | ((first | refine z1 ?_ | refine z2 ?_ | refine z3 ?_ | refine idxB_at (by decide) rfl ?_ | refine atB_at (by decide) (by decide) ?_ | refine getB_lit _ rfl ?_ | refine z7 ?_); conv => whnf) | exact True.intro)))
  refine loopB tab_ok mix [1] [0] (fun i : Nat => [(3, V.int (liveN (l.take i))), (4, V.int i)]) (fun i => []) (fun i => i ≤ l.length) (fun i => l.length - i) [] 0 rfl (by omega) (by ((conv => whnf); (repeat (first | ((first | refine z1 ?_ | refine z2 ?_ | refine z3 ?_ | refine idxB_at (by decide) rfl ?_ | refine atB_at (by decide) (by decide) ?_ | refine getB_lit _ rfl ?_ | refine z7 ?_); conv => whnf) | exact True.intro)))) ?_
  rintro i hi
  have hli := hle i
  have hli2 := hle (i + 1)
  ((conv => whnf); (repeat (first | ((first | refine z1 ?_ | refine z2 ?_ | refine z3 ?_ | refine idxB_at (by decide) rfl ?_ | refine atB_at (by decide) (by decide) ?_ | refine getB_lit _ rfl ?_ | refine z7 ?_); conv => whnf) | exact True.intro)))
  refine br_dec (fun u => ?_) (fun u => ?_) <;> ((conv => whnf); (repeat (first | ((first | refine z1 ?_ | refine z2 ?_ | refine z3 ?_ | refine idxB_at (by decide) rfl ?_ | refine atB_at (by decide) (by decide) ?_ | refine getB_lit _ rfl ?_ | refine z7 ?_); conv => whnf) | exact True.intro)))
  · have u' : i < l.length := by simpa using u
    obtain ⟨x, hx⟩ := get_lt u'
    have hs : liveN (l.take (i + 1)) = liveN (l.take i) + (if x.state ≠ 0 then 1 else 0) := by
      unfold liveN
      rw [List.take_add_one, hx, Option.toList_some, List.filter_append, List.length_append]
      by_cases c : x.state ≠ 0
      · simp [c]
      · simp [c]
    refine idxB hx ?_
    ((conv => whnf); (repeat (first | ((first | refine z1 ?_ | refine z2 ?_ | refine z3 ?_ | refine idxB_at (by decide) rfl ?_ | refine atB_at (by decide) (by decide) ?_ | refine getB_lit _ rfl ?_ | refine z7 ?_); conv => whnf) | exact True.intro)))
    by_cases c : x.state = 0
    · rw [if_neg (by simp [c])] at hs
      rw [show (!decide (x.state = 0)) = false by simp [c]]
      ((conv => whnf); (repeat (first | ((first | refine z1 ?_ | refine z2 ?_ | refine z3 ?_ | refine idxB_at (by decide) rfl ?_ | refine atB_at (by decide) (by decide) ?_ | refine getB_lit _ rfl ?_ | refine z7 ?_); conv => whnf) | exact True.intro)))
      refine .mk [] (i + 1) (by omega) (by omega) ?_
      rw [hs]
      ((conv => whnf); (repeat (first | ((first | refine z1 ?_ | refine z2 ?_ | refine z3 ?_ | refine idxB_at (by decide) rfl ?_ | refine atB_at (by decide) (by decide) ?_ | refine getB_lit _ rfl ?_ | refine z7 ?_); conv => whnf) | exact True.intro)))
    · rw [if_pos c] at hs
      rw [show (!decide (x.state = 0)) = true by simp [c]]
      ((conv => whnf); (repeat (first | ((first | refine z1 ?_ | refine z2 ?_ | refine z3 ?_ | refine idxB_at (by decide) rfl ?_ | refine atB_at (by decide) (by decide) ?_ | refine getB_lit _ rfl ?_ | refine z7 ?_); conv => whnf) | exact True.intro)))
      refine .mk [] (i + 1) (by omega) (by omega) ?_
      rw [hs]
      ((conv => whnf); (repeat (first | ((first | refine z1 ?_ | refine z2 ?_ | refine z3 ?_ | refine idxB_at (by decide) rfl ?_ | refine atB_at (by decide) (by decide) ?_ | refine getB_lit _ rfl ?_ | refine z7 ?_); conv => whnf) | exact True.intro)))
  · have e : i = l.length := by simp at u; omega
    subst e
    rw [List.take_length]
    exact .same rfl
/-- a handle that was given out -/
def Iss (n : Nat) (s : Sto) (h : Int) : Prop := ∃ (i : Nat) (g : Int), i < n ∧ h = 64 * g + i ∧ 0 ≤ g ∧ (g < s.gn i ∨ g = s.gn i ∧ s.st i ≠ 0)
theorem Iss.next {n : Nat} {s t : Sto} {h : Int} (hi : Iss n s h) (hm : ∀ j, j < n → s.gn j ≤ t.gn j ∧ (s.st j ≠ 0 → t.st j ≠ 0 ∨ s.gn j < t.gn j)) : Iss n t h := by
  obtain ⟨i, g, h1, h2, h3, h4⟩ := hi
  obtain ⟨m1, m2⟩ := hm i h1
  refine ⟨i, g, h1, h2, h3, ?_⟩
  rcases h4 with h4 | ⟨h4, h5⟩
  · exact .inl (by omega)
  · rcases m2 h5 with m | m
    · by_cases c : g < t.gn i
      · exact .inl c
      · exact .inr ⟨by omega, m⟩
    · exact .inl (by omega)
theorem Iss.new {n : Nat} {s : Sto} {h : Int} (hn : n ≤ 64) (hi : Iss n s h) {i : Nat} (hin : i < n) (h0 : s.st i = 0) : h ≠ 64 * s.gn i + i := by
  obtain ⟨j, g, h1, h2, h3, h4⟩ := hi
  intro e
  have e1 : j = i := by omega
  subst e1
  have e2 : g = s.gn j := by omega
  rcases h4 with h4 | ⟨_, h5⟩
  · omega
  · exact h5 h0
theorem SOk.full {n : Nat} {s : Sto} {S : List Item} {A : Nat → Prop} {K : Nat} (h : SOk n s S A K) : (s.idle = [] → liveN s.pics = n) ∧ ((∃ i, i < n ∧ s.st i = 0) → liveN s.pics < n) := by
  have hl : s.pics.length = n := by simp [Sto.pics, h.ns]
  refine ⟨fun e => ?_, fun ⟨i, hi, h0⟩ => ?_⟩
  · unfold liveN
    rw [List.filter_eq_self.2, hl]
    intro x hx
    obtain ⟨i, hi, rfl⟩ := List.mem_map.1 hx
    have hi : i < n := by have := List.mem_range.1 hi; rw [h.ns] at this; exact this
    have : s.st i ≠ 0 := fun c => by have := (h.fr i hi).2 c; rw [e] at this; cases this
    exact decide_eq_true this
  · have h1 : s.pic i ∈ s.pics := List.mem_map.2 ⟨i, List.mem_range.2 (by rw [h.ns]; exact hi), rfl⟩
    have h2 := (List.filter_sublist (p := fun x : Slt => decide (x.state ≠ 0)) (l := s.pics)).length_le
    unfold liveN
    have h3 : (s.pics.filter fun x => decide (x.state ≠ 0)).length ≠ s.pics.length := fun e => by
      have := List.length_filter_eq_length_iff.1 e _ h1
      have e2 : (s.pic i).state = 0 := h0
      rw [e2] at this; simp at this
    omega
structure RunH where
  i : Nat
  s : Sto
  S : List Item
  iss : List Int
structure RunHOk (n : Nat) (l : List OpS) (x : RunH) : Prop extends RunOk n l ⟨x.i, x.s, x.S⟩ where
  all : ∀ h ∈ x.iss, Iss n x.s h
  len : x.iss.length ≤ x.i
set_option maxHeartbeats 4000000 in
theorem storeHandles (c : Int) (hc : 0 ≤ c ∧ c ≤ 255) (l : List OpS) (hl : ∀ o ∈ l, o.Ok) :
    PSpec Tryz.prog 6 [.c (.int .u8 c), opsSV l] (V.bool true) := by
  obtain ⟨e1, hn⟩ := capN_ok hc.1
  generalize capN c = n at *
  have hh := heldC n hn
  have hz : RunHOk n l ⟨0, heldN n 4, [], []⟩ := ⟨runOk_zero hn l, fun h hx => by simp at hx, Nat.le_refl _⟩
  generalize heldN n 4 = s0 at *
  refine pspec tab_ok mix Tryz.func6 (by kernel_rfl) rfl rfl ?_
  ((conv => whnf); (repeat (first | ((first | refine z1 ?_ | refine z2 ?_ | refine z3 ?_ | refine idxB_at (by decide) rfl ?_ | refine atB_at (by decide) (by decide) ?_ | refine getB_lit _ rfl ?_ | refine z7 ?_); conv => whnf) | exact True.intro)))
  refine callB head11C ?_
  ((conv => whnf); (repeat (first | ((first | refine z1 ?_ | refine z2 ?_ | refine z3 ?_ | refine idxB_at (by decide) rfl ?_ | refine atB_at (by decide) (by decide) ?_ | refine getB_lit _ rfl ?_ | refine z7 ?_); conv => whnf) | exact True.intro)))
  rw [e1]
  refine callL hh [] [] rfl ?_
  ((conv => whnf); (repeat (first | ((first | refine z1 ?_ | refine z2 ?_ | refine z3 ?_ | refine idxB_at (by decide) rfl ?_ | refine atB_at (by decide) (by decide) ?_ | refine getB_lit _ rfl ?_ | refine z7 ?_); conv => whnf) | exact True.intro)))
  refine br_dec (fun g => ?_) (fun g => ?_) <;> ((conv => whnf); (repeat (first | ((first | refine z1 ?_ | refine z2 ?_ | refine z3 ?_ | refine idxB_at (by decide) rfl ?_ | refine atB_at (by decide) (by decide) ?_ | refine getB_lit _ rfl ?_ | refine z7 ?_); conv => whnf) | exact True.intro)))
  · exact .same rfl
  have hll : l.length ≤ 80 := by simp at g; omega
  refine loopB tab_ok mix [1, 5, 6] [] (fun x : RunH => [(7, .p 0 10 0 0), (8, .ac 5 1 x.iss.length), (9, V.int x.i)]) (fun x => stoAt x.s 0 2 ++ [(5, .dat 1 (x.iss.map intD))]) (RunHOk n l) (fun x => l.length - x.i) [(0, 576), (1, 577), (2, 578), (3, 579), (4, 580), (5, 777)] ⟨0, s0, [], []⟩ rfl hz (by ((conv => whnf); (repeat (first | ((first | refine z1 ?_ | refine z2 ?_ | refine z3 ?_ | refine idxB_at (by decide) rfl ?_ | refine atB_at (by decide) (by decide) ?_ | refine getB_lit _ rfl ?_ | refine z7 ?_); conv => whnf) | exact True.intro)))) ?_
  rintro ⟨i, s, S, iss⟩ hx
  have hi := hx.i
  have hb := hx.ok
  have hil := hx.len
  dsimp only at hi hb hil
  ((conv => whnf); (repeat (first | ((first | refine z1 ?_ | refine z2 ?_ | refine z3 ?_ | refine idxB_at (by decide) rfl ?_ | refine atB_at (by decide) (by decide) ?_ | refine getB_lit _ rfl ?_ | refine z7 ?_); conv => whnf) | exact True.intro)))
  refine br_dec (fun u => ?_) (fun u => ?_) <;> ((conv => whnf); (repeat (first | ((first | refine z1 ?_ | refine z2 ?_ | refine z3 ?_ | refine idxB_at (by decide) rfl ?_ | refine atB_at (by decide) (by decide) ?_ | refine getB_lit _ rfl ?_ | refine z7 ?_); conv => whnf) | exact True.intro)))
  · have u' : i < l.length := by simpa using u
    obtain ⟨o, ho⟩ := get_lt u'
    obtain ⟨r, t, T, hs, hst⟩ := stepSC hb (by omega) hx.held o (hl o (List.mem_of_getElem? ho))
    have hall : ∀ h ∈ iss, Iss n t h := fun h hh => (hx.all h hh).next hst.mono
    refine idxB ho ?_
    ((conv => whnf); (repeat (first | ((first | refine z1 ?_ | refine z2 ?_ | refine z3 ?_ | refine idxB_at (by decide) rfl ?_ | refine atB_at (by decide) (by decide) ?_ | refine getB_lit _ rfl ?_ | refine z7 ?_); conv => whnf) | exact True.intro)))
    by_cases hk : 1 < o.kind.tmod 5
    · rw [decide_eq_true hk]
      ((conv => whnf); (repeat (first | ((first | refine z1 ?_ | refine z2 ?_ | refine z3 ?_ | refine idxB_at (by decide) rfl ?_ | refine atB_at (by decide) (by decide) ?_ | refine getB_lit _ rfl ?_ | refine z7 ?_); conv => whnf) | exact True.intro)))
      refine idxB ho ?_
      ((conv => whnf); (repeat (first | ((first | refine z1 ?_ | refine z2 ?_ | refine z3 ?_ | refine idxB_at (by decide) rfl ?_ | refine atB_at (by decide) (by decide) ?_ | refine getB_lit _ rfl ?_ | refine z7 ?_); conv => whnf) | exact True.intro)))
      refine callL hs [some 0, some 1, some 2, some 3, some 4] [] rfl ?_
      ((conv => whnf); (repeat (first | ((first | refine z1 ?_ | refine z2 ?_ | refine z3 ?_ | refine idxB_at (by decide) rfl ?_ | refine atB_at (by decide) (by decide) ?_ | refine getB_lit _ rfl ?_ | refine z7 ?_); conv => whnf) | exact True.intro)))
      refine .mk [(2, 2368)] ⟨i + 1, t, T, iss⟩ ⟨hx.toRunOk.next u' hst, hall, by dsimp only; omega⟩ (by dsimp only; omega) ?_
      ((conv => whnf); (repeat (first | ((first | refine z1 ?_ | refine z2 ?_ | refine z3 ?_ | refine idxB_at (by decide) rfl ?_ | refine atB_at (by decide) (by decide) ?_ | refine getB_lit _ rfl ?_ | refine z7 ?_); conv => whnf) | exact True.intro)))
    · rw [decide_eq_false hk]
      ((conv => whnf); (repeat (first | ((first | refine z1 ?_ | refine z2 ?_ | refine z3 ?_ | refine idxB_at (by decide) rfl ?_ | refine atB_at (by decide) (by decide) ?_ | refine getB_lit _ rfl ?_ | refine z7 ?_); conv => whnf) | exact True.intro)))
      refine callL (arenaH hb) [some 0, some 1, some 2, some 3, some 4] [] rfl ?_
      ((conv => whnf); (repeat (first | ((first | refine z1 ?_ | refine z2 ?_ | refine z3 ?_ | refine idxB_at (by decide) rfl ?_ | refine atB_at (by decide) (by decide) ?_ | refine getB_lit _ rfl ?_ | refine z7 ?_); conv => whnf) | exact True.intro)))
      have hpl : s.pics.length = n := by simp [Sto.pics, hb.ns]
      refine callC (liveC s.pics s.idle s.next (by omega)) ?_
      ((conv => whnf); (repeat (first | ((first | refine z1 ?_ | refine z2 ?_ | refine z3 ?_ | refine idxB_at (by decide) rfl ?_ | refine atB_at (by decide) (by decide) ?_ | refine getB_lit _ rfl ?_ | refine z7 ?_); conv => whnf) | exact True.intro)))
      refine idxB ho ?_
      ((conv => whnf); (repeat (first | ((first | refine z1 ?_ | refine z2 ?_ | refine z3 ?_ | refine idxB_at (by decide) rfl ?_ | refine atB_at (by decide) (by decide) ?_ | refine getB_lit _ rfl ?_ | refine z7 ?_); conv => whnf) | exact True.intro)))
      refine callL hs [some 0, some 1, some 2, some 3, some 4] [] rfl ?_
      ((conv => whnf); (repeat (first | ((first | refine z1 ?_ | refine z2 ?_ | refine z3 ?_ | refine idxB_at (by decide) rfl ?_ | refine atB_at (by decide) (by decide) ?_ | refine getB_lit _ rfl ?_ | refine z7 ?_); conv => whnf) | exact True.intro)))
      rcases hst.ret (by omega) with ⟨rfl, hid⟩ | ⟨k, hkn, hk0, hne, hr, ht1, htg⟩
      · have hf := hb.toSOk.full.1 hid
        rw [hf]
        rw [show (!(decide ((-1 : Int) = -1) == decide ((n : Int) = n))) = false by simp]
        ((conv => whnf); (repeat (first | ((first | refine z1 ?_ | refine z2 ?_ | refine z3 ?_ | refine idxB_at (by decide) rfl ?_ | refine atB_at (by decide) (by decide) ?_ | refine getB_lit _ rfl ?_ | refine z7 ?_); conv => whnf) | exact True.intro)))
        refine .mk [(2, 2624)] ⟨i + 1, t, T, iss⟩ ⟨hx.toRunOk.next u' hst, hall, by dsimp only; omega⟩ (by dsimp only; omega) ?_
        ((conv => whnf); (repeat (first | ((first | refine z1 ?_ | refine z2 ?_ | refine z3 ?_ | refine idxB_at (by decide) rfl ?_ | refine atB_at (by decide) (by decide) ?_ | refine getB_lit _ rfl ?_ | refine z7 ?_); conv => whnf) | exact True.intro)))
      · have hf := hb.toSOk.full.2 ⟨k, hkn, hk0⟩
        have hg0 : 0 ≤ s.gn k := by have := (hb.wd k hkn).1; unfold Sto.gn; omega
        have hgk : s.gn k ≤ 400 := by have := (hb.wd k hkn).2; omega
        have hnew : ∀ h ∈ iss, h ≠ r := fun h hh => by rw [hr]; exact (hx.all h hh).new (by omega) hkn hk0
        have hissr : Iss n t r := ⟨k, s.gn k, hkn, hr, hg0, .inr ⟨htg.symm, by rw [ht1]; decide⟩⟩
        rw [show (!(decide (r = -1) == decide ((liveN s.pics : Int) = n))) = false by rw [decide_eq_false (show ¬ r = -1 by omega), decide_eq_false (show ¬ (liveN s.pics : Int) = n by omega)]; rfl]
        ((conv => whnf); (repeat (first | ((first | refine z1 ?_ | refine z2 ?_ | refine z3 ?_ | refine idxB_at (by decide) rfl ?_ | refine atB_at (by decide) (by decide) ?_ | refine getB_lit _ rfl ?_ | refine z7 ?_); conv => whnf) | exact True.intro)))
        rw [decide_eq_false (show ¬ r = -1 by omega)]
        ((conv => whnf); (repeat (first | ((first | refine z1 ?_ | refine z2 ?_ | refine z3 ?_ | refine idxB_at (by decide) rfl ?_ | refine atB_at (by decide) (by decide) ?_ | refine getB_lit _ rfl ?_ | refine z7 ?_); conv => whnf) | exact True.intro)))
        refine loopB tab_ok mix [1, 5, 6, 7, 8, 9, 11] [0, 1, 3, 4, 5, 2624] (fun m : Nat => [(12, V.int m)]) (fun m => []) (fun m => m ≤ iss.length) (fun m => iss.length - m) [] 0 rfl (by omega) (by ((conv => whnf); (repeat (first | ((first | refine z1 ?_ | refine z2 ?_ | refine z3 ?_ | refine idxB_at (by decide) rfl ?_ | refine atB_at (by decide) (by decide) ?_ | refine getB_lit _ rfl ?_ | refine z7 ?_); conv => whnf) | exact True.intro)))) ?_
        rintro m hm
        ((conv => whnf); (repeat (first | ((first | refine z1 ?_ | refine z2 ?_ | refine z3 ?_ | refine idxB_at (by decide) rfl ?_ | refine atB_at (by decide) (by decide) ?_ | refine getB_lit _ rfl ?_ | refine z7 ?_); conv => whnf) | exact True.intro)))
        refine br_dec (fun v => ?_) (fun v => ?_) <;> ((conv => whnf); (repeat (first | ((first | refine z1 ?_ | refine z2 ?_ | refine z3 ?_ | refine idxB_at (by decide) rfl ?_ | refine atB_at (by decide) (by decide) ?_ | refine getB_lit _ rfl ?_ | refine z7 ?_); conv => whnf) | exact True.intro)))
        · have v' : m < iss.length := by simpa using v
          obtain ⟨y, hy⟩ := get_lt v'
          refine atB v' ?_
          ((conv => whnf); (repeat (first | ((first | refine z1 ?_ | refine z2 ?_ | refine z3 ?_ | refine idxB_at (by decide) rfl ?_ | refine atB_at (by decide) (by decide) ?_ | refine getB_lit _ rfl ?_ | refine z7 ?_); conv => whnf) | exact True.intro)))
          refine getB hy ?_
          ((conv => whnf); (repeat (first | ((first | refine z1 ?_ | refine z2 ?_ | refine z3 ?_ | refine idxB_at (by decide) rfl ?_ | refine atB_at (by decide) (by decide) ?_ | refine getB_lit _ rfl ?_ | refine z7 ?_); conv => whnf) | exact True.intro)))
          rw [decide_eq_false (hnew y (List.mem_of_getElem? hy))]
          ((conv => whnf); (repeat (first | ((first | refine z1 ?_ | refine z2 ?_ | refine z3 ?_ | refine idxB_at (by decide) rfl ?_ | refine atB_at (by decide) (by decide) ?_ | refine getB_lit _ rfl ?_ | refine z7 ?_); conv => whnf) | exact True.intro)))
          refine .mk [] (m + 1) (by omega) (by omega) ?_
          ((conv => whnf); (repeat (first | ((first | refine z1 ?_ | refine z2 ?_ | refine z3 ?_ | refine idxB_at (by decide) rfl ?_ | refine atB_at (by decide) (by decide) ?_ | refine getB_lit _ rfl ?_ | refine z7 ?_); conv => whnf) | exact True.intro)))
        · have hsl : slotH r = k := by unfold slotH; rw [if_pos ⟨by omega, by omega⟩]; omega
          have hge : genH r = s.gn k := by unfold genH; rw [if_pos ⟨by omega, by omega⟩]; omega
          have hwt : t.m.word (k + 1) = 4 * s.gn k + 1 := by
            have h1 : t.m.word (k + 1) / 4 = s.gn k := htg
            have h2 : t.m.word (k + 1) % 4 = 1 := ht1
            omega
          refine callB (rSlotC r) ?_
          rw [hsl]
          ((conv => whnf); (repeat (first | ((first | refine z1 ?_ | refine z2 ?_ | refine z3 ?_ | refine idxB_at (by decide) rfl ?_ | refine atB_at (by decide) (by decide) ?_ | refine getB_lit _ rfl ?_ | refine z7 ?_); conv => whnf) | exact True.intro)))
          rw [show decide ((k : Int) < 0) = false from decide_eq_false (by omega)]
          ((conv => whnf); (repeat (first | ((first | refine z1 ?_ | refine z2 ?_ | refine z3 ?_ | refine idxB_at (by decide) rfl ?_ | refine atB_at (by decide) (by decide) ?_ | refine getB_lit _ rfl ?_ | refine z7 ?_); conv => whnf) | exact True.intro)))
          rw [show decide ((n : Int) ≤ k) = false from decide_eq_false (by omega)]
          ((conv => whnf); (repeat (first | ((first | refine z1 ?_ | refine z2 ?_ | refine z3 ?_ | refine idxB_at (by decide) rfl ?_ | refine atB_at (by decide) (by decide) ?_ | refine getB_lit _ rfl ?_ | refine z7 ?_); conv => whnf) | exact True.intro)))
          refine callL (memoryC t) [some 0, some 1, some 2624, some 3, some 4] [] rfl ?_
          ((conv => whnf); (repeat (first | ((first | refine z1 ?_ | refine z2 ?_ | refine z3 ?_ | refine idxB_at (by decide) rfl ?_ | refine atB_at (by decide) (by decide) ?_ | refine getB_lit _ rfl ?_ | refine z7 ?_); conv => whnf) | exact True.intro)))
          rw [show (1 + (k : Int)) = ((k + 1 : Nat) : Int) by omega]
          refine callL (wordAtC t.m (k + 1) (by rw [hst.ok.nw]; omega) hst.ok.fits.mem) [some 1, some 2624, some 3, some 4] [] rfl ?_
          rw [hwt]
          ((conv => whnf); (repeat (first | ((first | refine z1 ?_ | refine z2 ?_ | refine z3 ?_ | refine idxB_at (by decide) rfl ?_ | refine atB_at (by decide) (by decide) ?_ | refine getB_lit _ rfl ?_ | refine z7 ?_); conv => whnf) | exact True.intro)))
          refine callB (rGenerationC r) ?_
          rw [hge]
          ((conv => whnf); (repeat (first | ((first | refine z1 ?_ | refine z2 ?_ | refine z3 ?_ | refine idxB_at (by decide) rfl ?_ | refine atB_at (by decide) (by decide) ?_ | refine getB_lit _ rfl ?_ | refine z7 ?_); conv => whnf) | exact True.intro)))
          refine callB (rWordC (s.gn k) 1 ⟨⟨hg0, by omega⟩, by omega⟩) ?_
          ((conv => whnf); (repeat (first | ((first | refine z1 ?_ | refine z2 ?_ | refine z3 ?_ | refine idxB_at (by decide) rfl ?_ | refine atB_at (by decide) (by decide) ?_ | refine getB_lit _ rfl ?_ | refine z7 ?_); conv => whnf) | exact True.intro)))
          rw [show (!decide (4 * s.gn k + 1 = 4 * s.gn k + 1)) = false by simp]
          ((conv => whnf); (repeat (first | ((first | refine z1 ?_ | refine z2 ?_ | refine z3 ?_ | refine idxB_at (by decide) rfl ?_ | refine atB_at (by decide) (by decide) ?_ | refine getB_lit _ rfl ?_ | refine z7 ?_); conv => whnf) | exact True.intro)))
          refine .mk [(2, 2624), (5, 3776)] ⟨i + 1, t, T, iss ++ [r]⟩ ⟨hx.toRunOk.next u' hst, fun h hh => ?_, by simp; omega⟩ (by dsimp only; omega) ?_
          · rcases List.mem_append.1 hh with hh | hh
            · exact hall h hh
            · rw [List.mem_singleton] at hh; subst hh; exact hissr
          ((conv => whnf); (repeat (first | ((first | refine z1 ?_ | refine z2 ?_ | refine z3 ?_ | refine idxB_at (by decide) rfl ?_ | refine atB_at (by decide) (by decide) ?_ | refine getB_lit _ rfl ?_ | refine z7 ?_); conv => whnf) | exact True.intro)))
          exact cb (by simp [intD]) (by ((conv => whnf); (repeat (first | ((first | refine z1 ?_ | refine z2 ?_ | refine z3 ?_ | refine idxB_at (by decide) rfl ?_ | refine atB_at (by decide) (by decide) ?_ | refine getB_lit _ rfl ?_ | refine z7 ?_); conv => whnf) | exact True.intro))))
  · exact .same rfl
end Go.Proofs.YtajgcanfngcfhaaGreat.Abs
