/- Scripts of law11: one operation on a store whose mutexes are held. -/
import Derived.Test.YtajgcanfngcfhaaGreatH13
namespace Go.Proofs.YtajgcanfngcfhaaGreat.Abs
open Go.Proofs
set_option maxRecDepth 10000
set_option linter.unusedSimpArgs false
set_option linter.unusedVariables false
structure OpS where
  kind : Int
  at' : Int
  near : Bool
def OpS.v (o : OpS) : V := .agg [.c (.int .u8 o.kind), .c (.int .u64 o.at'), V.bool o.near]
def OpS.row (o : OpS) : List D := [.c (.int .u8 o.kind), .c (.int .u64 o.at'), .c (.bool o.near)]
def opsSV (l : List OpS) : V := .lst 3 (l.map OpS.row) false
structure OpS.Ok (o : OpS) : Prop where
  kind : 0 ≤ o.kind ∧ o.kind ≤ 255
  at' : 0 ≤ o.at' ∧ o.at' ≤ 18446744073709551615
def OpS.time (o : OpS) : Int := if o.near = true then o.at'.tmod 40 else o.at'.tmod 1152921504606846977
theorem OpS.time_ok {o : OpS} (h : o.Ok) : 0 ≤ o.time ∧ o.time ≤ 1152921504606846976 := by
  have h1 := h.at'.1
  have k1 := Int.tmod_nonneg (b := 40) h1
  have k2 := Int.tmod_nonneg (b := 1152921504606846977) h1
  have k3 := tmod_bounds o.at' 40 (by omega)
  have k4 := tmod_bounds o.at' 1152921504606846977 (by omega)
  unfold OpS.time
  split <;> omega
theorem timeSC (o : OpS) (h : o.Ok) : PSpec Tryz.prog 75 [o.v] (V.int o.time) := by
  have h1 := h.at'.1
  have k1 := Int.tmod_nonneg (b := 40) h1
  have k2 := Int.tmod_nonneg (b := 1152921504606846977) h1
  have k3 := tmod_bounds o.at' 40 (by omega)
  have k4 := tmod_bounds o.at' 1152921504606846977 (by omega)
  obtain ⟨k, a, nr⟩ := o
  refine pspec tab_ok mix Tryz.func75 (by kernel_rfl) rfl rfl ?_
  dsimp only at *
  cases nr
  · ((conv => whnf); (repeat (first | ((first | refine z1 ?_ | refine z2 ?_ | refine z3 ?_ | refine idxB_at (by decide) rfl ?_ | refine atB_at (by decide) (by decide) ?_ | refine getB_lit _ rfl ?_ | refine z7 ?_); conv => whnf) | exact True.intro)))
    refine wrB (by dsimp only; omega) ?_
    ((conv => whnf); (repeat (first | ((first | refine z1 ?_ | refine z2 ?_ | refine z3 ?_ | refine idxB_at (by decide) rfl ?_ | refine atB_at (by decide) (by decide) ?_ | refine getB_lit _ rfl ?_ | refine z7 ?_); conv => whnf) | exact True.intro)))
    exact .same rfl
  · ((conv => whnf); (repeat (first | ((first | refine z1 ?_ | refine z2 ?_ | refine z3 ?_ | refine idxB_at (by decide) rfl ?_ | refine atB_at (by decide) (by decide) ?_ | refine getB_lit _ rfl ?_ | refine z7 ?_); conv => whnf) | exact True.intro)))
    refine wrB (by dsimp only; omega) ?_
    ((conv => whnf); (repeat (first | ((first | refine z1 ?_ | refine z2 ?_ | refine z3 ?_ | refine idxB_at (by decide) rfl ?_ | refine atB_at (by decide) (by decide) ?_ | refine getB_lit _ rfl ?_ | refine z7 ?_); conv => whnf) | exact True.intro)))
    exact .same rfl
/-- what an operation leads to: S the queue before, T behind -/
structure StepR (n : Nat) (o : OpS) (s : Sto) (K : Nat) (r : Int) (t : Sto) (T : List Item) : Prop where
  ok : SB n t T (fun _ => False) (K + 4)
  held : t.all4 0
  viol : t.m.viol = s.m.viol
  mono : ∀ j, j < n → s.gn j ≤ t.gn j ∧ (s.st j ≠ 0 → t.st j ≠ 0 ∨ s.gn j < t.gn j)
  ret : o.kind.tmod 5 ≤ 1 → (r = -1 ∧ s.idle = []) ∨ ∃ i : Nat, i < n ∧ s.st i = 0 ∧ s.idle ≠ [] ∧ r = 64 * s.gn i + i ∧ t.st i = 1 ∧ t.gn i = s.gn i
theorem take_id {s : Sto} (h : s.all4 0) (q : Lad) : s.take 0 q = s.replace 0 q := by
  unfold Sto.take
  rw [Sto.touch_id (th := 0) (l := [0, 1, 2]) (fun i hi => h i (by simp at hi; omega))]
theorem SB.take {n : Nat} {s : Sto} {S T : List Item} {A B : Nat → Prop} {K : Nat} (h : SB n s S A K) (hK : K + 1 ≤ 20000) (hh : s.all4 0) {q : Lad} (ht : SOk n (s.take 0 q) T B K) : SB n (s.take 0 q) T B (K + 1) ∧ (s.take 0 q).all4 0 ∧ (s.take 0 q).m.viol = s.m.viol := by
  rw [take_id hh] at ht ⊢
  obtain ⟨k1, k2, k3, k4⟩ := replace_keeps s 0 q
  have := h.log
  have := h.viol
  exact ⟨⟨ht.mono (by omega) hK, by push_cast; omega, by push_cast; omega⟩, all4_of hh k1, k2⟩
theorem SB.mono {n : Nat} {s : Sto} {S : List Item} {A : Nat → Prop} {K L : Nat} (h : SB n s S A K) (hl : K ≤ L) (hb : L ≤ 20000) : SB n s S A L :=
  ⟨h.toSOk.mono hl hb, by have := h.log; omega, by have := h.viol; omega⟩
theorem replace_word {s : Sto} {th : Int} {q : Lad} (hw : 0 < s.m.words.length) (j : Nat) : (s.replace th q).st j = s.st j ∧ (s.replace th q).gn j = s.gn j := by
  have ew : (s.replace th q).m.word (j + 1) = s.m.word (j + 1) := by
    unfold Sto.replace
    dsimp only
    split
    · rfl
    · unfold Mem.store; rw [Mem.word_put _ _ _ _ _ _ _ hw, if_neg (by omega)]
  unfold Sto.st Sto.gn
  rw [ew]; exact ⟨rfl, rfl⟩
set_option maxHeartbeats 1000000 in
theorem step4C {n : Nat} {s : Sto} {S : List Item} {K : Nat} (h : SB n s S (fun _ => False) K) (hK : K + 4 ≤ 20000) (hh : s.all4 0) (o : OpS) (ho : o.Ok) (hk : o.kind.tmod 5 = 4) :
    ∃ r t T, LSpec Tryz.prog 19 [.p 0 10 0 0, o.v, V.int n] (stoB s 2) 5 (V.int r) (stoB t 5) 6 ∧ StepR n o s K r t T := by
  obtain ⟨p1, p2⟩ := h.firstP
  have hp := peekSC s 0 p1 h.fits h.smallv (by rw [h.nm]; exact Nat.le_refl _) (by rw [h.nw]; omega)
  obtain ⟨b1, b2, b3⟩ := h.take (by omega) hh (h.toSOk.peek 0)
  refine ⟨(headI S).seq, s.take 0 (fillG s.q), S, ?_, b1.mono (by omega) hK, b2, b3, fun j hj => ?_, fun hx => by omega⟩
  · refine lspec tab_ok mix Tryz.func19 (by kernel_rfl) (by rfl) (by rfl) (by rfl) (by rfl) ?_
    ((conv => whnf); (repeat (first | ((first | refine z1 ?_ | refine z2 ?_ | refine z3 ?_ | refine idxB_at (by decide) rfl ?_ | refine atB_at (by decide) (by decide) ?_ | refine getB_lit _ rfl ?_ | refine z7 ?_); conv => whnf) | exact True.intro)))
    rw [hk]
    ((conv => whnf); (repeat (first | ((first | refine z1 ?_ | refine z2 ?_ | refine z3 ?_ | refine idxB_at (by decide) rfl ?_ | refine atB_at (by decide) (by decide) ?_ | refine getB_lit _ rfl ?_ | refine z7 ?_); conv => whnf) | exact True.intro)))
    refine callL hp [some 0, some 1, some 2, some 3, some 4] [] rfl ?_
    ((conv => whnf); (repeat (first | ((first | refine z1 ?_ | refine z2 ?_ | refine z3 ?_ | refine idxB_at (by decide) rfl ?_ | refine atB_at (by decide) (by decide) ?_ | refine getB_lit _ rfl ?_ | refine z7 ?_); conv => whnf) | exact True.intro)))
    refine .mk [(5, 960)] ?_
    ((conv => whnf); (repeat (first | ((first | refine z1 ?_ | refine z2 ?_ | refine z3 ?_ | refine idxB_at (by decide) rfl ?_ | refine atB_at (by decide) (by decide) ?_ | refine getB_lit _ rfl ?_ | refine z7 ?_); conv => whnf) | exact True.intro)))
  · rw [take_id hh]
    obtain ⟨e1, e2⟩ := replace_word (s := s) (th := 0) (q := fillG s.q) (by rw [h.nw]; omega) j
    rw [e1, e2]
    exact ⟨Int.le_refl _, fun x => .inl x⟩
theorem mput_same (m : Mem) (th kind : Int) (i : Nat) (ok : Bool) (h : i < m.words.length) : (m.put th kind i (m.word i) ok).words = m.words := by
  show m.words.set i (m.word i) = m.words
  have e : m.word i = m.words[i] := by
    have := Mem.word_get h
    rw [List.getElem?_eq_getElem h] at this
    exact (Option.some.inj this).symm
  rw [e, List.set_getElem_self]
theorem mark_word {s : Sto} {i : Nat} (hw : i + 1 < s.m.words.length) (th kind : Int) (ok : Bool) {v : Int} (hv : v / 4 = s.gn i) (j : Nat) :
    Sto.gn { s with m := s.m.put th kind (i + 1) v ok } j = s.gn j ∧ Sto.st { s with m := s.m.put th kind (i + 1) v ok } j = if j = i then v % 4 else s.st j := by
  unfold Sto.gn Sto.st at *
  dsimp only
  rw [Mem.word_put _ _ _ _ _ _ _ hw]
  by_cases c : j = i
  · subst c; rw [if_pos rfl, if_pos rfl]; exact ⟨hv, rfl⟩
  · rw [if_neg (by omega), if_neg c]; exact ⟨rfl, rfl⟩
set_option maxHeartbeats 1000000 in
theorem step3C {n : Nat} {s : Sto} {S : List Item} {K : Nat} (h : SB n s S (fun _ => False) K) (hK : K + 4 ≤ 20000) (hh : s.all4 0) (o : OpS) (ho : o.Ok) (hk : o.kind.tmod 5 = 3) :
    ∃ r t T, LSpec Tryz.prog 19 [.p 0 10 0 0, o.v, V.int n] (stoB s 2) 5 (V.int r) (stoB t 5) 6 ∧ StepR n o s K r t T := by
  have hn := h.n12
  have hat := ho.at'
  obtain ⟨i, hi, hin⟩ : ∃ i : Nat, o.at'.tmod (n : Int) = (i : Int) ∧ i < n := by
    have h1 := Int.tmod_nonneg (b := (n : Int)) hat.1
    have h2 := (tmod_bounds o.at' n (by omega)).2
    exact ⟨(o.at'.tmod n).toNat, by omega, by omega⟩
  have hwl : i + 1 < s.m.words.length := by rw [h.nw]; omega
  have hwd := h.wd i hin
  have hgn : 0 ≤ s.m.word (i + 1) / 4 ∧ s.m.word (i + 1) / 4 ≤ K := ⟨by have := hwd.1; omega, hwd.2⟩
  have hc := casC s.m 0 (i + 1) (4 * (s.m.word (i + 1) / 4) + 1) (4 * (s.m.word (i + 1) / 4) + 3) hwl h.fits.mem
  have hkb := h.kb
  by_cases e : s.m.word (i + 1) = 4 * (s.m.word (i + 1) / 4) + 1
  · have e1 : (s.m.cas 0 (i + 1) (4 * (s.m.word (i + 1) / 4) + 1) (4 * (s.m.word (i + 1) / 4) + 3)).1 = s.m.put 0 3 (i + 1) (4 * (s.m.word (i + 1) / 4) + 3) true := by unfold Mem.cas; rw [if_pos e]
    rw [e1, decide_eq_true e] at hc
    have hlive : s.st i ≠ 0 := by unfold Sto.st; omega
    have hm := h.toSOk.mark hin hlive 0 3 true (v := 4 * (s.m.word (i + 1) / 4) + 3) (by unfold Sto.gn; omega) (by omega)
    refine ⟨1, { s with m := s.m.put 0 3 (i + 1) (4 * (s.m.word (i + 1) / 4) + 3) true }, S, ?_, ⟨hm.mono (by omega) hK, ?_, ?_⟩, hh, rfl, fun j hj => ?_, fun hx => by omega⟩
    · refine lspec tab_ok mix Tryz.func19 (by kernel_rfl) (by rfl) (by rfl) (by rfl) (by rfl) ?_
      ((conv => whnf); (repeat (first | ((first | refine z1 ?_ | refine z2 ?_ | refine z3 ?_ | refine idxB_at (by decide) rfl ?_ | refine atB_at (by decide) (by decide) ?_ | refine getB_lit _ rfl ?_ | refine z7 ?_); conv => whnf) | exact True.intro)))
      rw [hk]
      ((conv => whnf); (repeat (first | ((first | refine z1 ?_ | refine z2 ?_ | refine z3 ?_ | refine idxB_at (by decide) rfl ?_ | refine atB_at (by decide) (by decide) ?_ | refine getB_lit _ rfl ?_ | refine z7 ?_); conv => whnf) | exact True.intro)))
      refine wrUn (by omega) ?_
      ((conv => whnf); (repeat (first | ((first | refine z1 ?_ | refine z2 ?_ | refine z3 ?_ | refine idxB_at (by decide) rfl ?_ | refine atB_at (by decide) (by decide) ?_ | refine getB_lit _ rfl ?_ | refine z7 ?_); conv => whnf) | exact True.intro)))
      rw [hi]
      refine callL (memoryC s) [some 0, some 1, some 2, some 3, some 4] [] rfl ?_
      ((conv => whnf); (repeat (first | ((first | refine z1 ?_ | refine z2 ?_ | refine z3 ?_ | refine idxB_at (by decide) rfl ?_ | refine atB_at (by decide) (by decide) ?_ | refine getB_lit _ rfl ?_ | refine z7 ?_); conv => whnf) | exact True.intro)))
      rw [show (1 + (i : Int)) = ((i + 1 : Nat) : Int) by omega]
      refine callL (wordAtC s.m (i + 1) hwl h.fits.mem) [some 1, some 2, some 3, some 4] [] rfl ?_
      ((conv => whnf); (repeat (first | ((first | refine z1 ?_ | refine z2 ?_ | refine z3 ?_ | refine idxB_at (by decide) rfl ?_ | refine atB_at (by decide) (by decide) ?_ | refine getB_lit _ rfl ?_ | refine z7 ?_); conv => whnf) | exact True.intro)))
      refine callL (memoryC s) [some 0, some 1, some 2, some 3, some 4] [] rfl ?_
      ((conv => whnf); (repeat (first | ((first | refine z1 ?_ | refine z2 ?_ | refine z3 ?_ | refine idxB_at (by decide) rfl ?_ | refine atB_at (by decide) (by decide) ?_ | refine getB_lit _ rfl ?_ | refine z7 ?_); conv => whnf) | exact True.intro)))
      refine callB (rGenC (s.m.word (i + 1)) (by omega)) ?_
      ((conv => whnf); (repeat (first | ((first | refine z1 ?_ | refine z2 ?_ | refine z3 ?_ | refine idxB_at (by decide) rfl ?_ | refine atB_at (by decide) (by decide) ?_ | refine getB_lit _ rfl ?_ | refine z7 ?_); conv => whnf) | exact True.intro)))
      refine callB (rWordC (s.m.word (i + 1) / 4) 1 ⟨⟨hgn.1, by omega⟩, by omega⟩) ?_
      ((conv => whnf); (repeat (first | ((first | refine z1 ?_ | refine z2 ?_ | refine z3 ?_ | refine idxB_at (by decide) rfl ?_ | refine atB_at (by decide) (by decide) ?_ | refine getB_lit _ rfl ?_ | refine z7 ?_); conv => whnf) | exact True.intro)))
      refine callB (rGenC (s.m.word (i + 1)) (by omega)) ?_
      ((conv => whnf); (repeat (first | ((first | refine z1 ?_ | refine z2 ?_ | refine z3 ?_ | refine idxB_at (by decide) rfl ?_ | refine atB_at (by decide) (by decide) ?_ | refine getB_lit _ rfl ?_ | refine z7 ?_); conv => whnf) | exact True.intro)))
      refine callB (rWordC (s.m.word (i + 1) / 4) 3 ⟨⟨hgn.1, by omega⟩, by omega⟩) ?_
      ((conv => whnf); (repeat (first | ((first | refine z1 ?_ | refine z2 ?_ | refine z3 ?_ | refine idxB_at (by decide) rfl ?_ | refine atB_at (by decide) (by decide) ?_ | refine getB_lit _ rfl ?_ | refine z7 ?_); conv => whnf) | exact True.intro)))
      rw [show (1 + (i : Int)) = ((i + 1 : Nat) : Int) by omega]
      refine callL hc [some 1, some 2, some 3, some 4] [] rfl ?_
      ((conv => whnf); (repeat (first | ((first | refine z1 ?_ | refine z2 ?_ | refine z3 ?_ | refine idxB_at (by decide) rfl ?_ | refine atB_at (by decide) (by decide) ?_ | refine getB_lit _ rfl ?_ | refine z7 ?_); conv => whnf) | exact True.intro)))
      refine .mk [(5, 2368)] ?_
      ((conv => whnf); (repeat (first | ((first | refine z1 ?_ | refine z2 ?_ | refine z3 ?_ | refine idxB_at (by decide) rfl ?_ | refine atB_at (by decide) (by decide) ?_ | refine getB_lit _ rfl ?_ | refine z7 ?_); conv => whnf) | exact True.intro)))
    · have := h.log; simp [Mem.put]; omega
    · have := h.viol; show 0 ≤ s.m.viol ∧ s.m.viol ≤ _; omega
    · obtain ⟨m1, m2⟩ := mark_word hwl 0 3 true (v := 4 * (s.m.word (i + 1) / 4) + 3) (by unfold Sto.gn; omega) j
      rw [m1, m2]
      refine ⟨Int.le_refl _, fun x => .inl ?_⟩
      split
      · omega
      · exact x
  · have e1 : (s.m.cas 0 (i + 1) (4 * (s.m.word (i + 1) / 4) + 1) (4 * (s.m.word (i + 1) / 4) + 3)).1 = s.m.put 0 3 (i + 1) (s.m.word (i + 1)) false := by unfold Mem.cas; rw [if_neg e]
    rw [e1, decide_eq_false e] at hc
    have hps := mput_same s.m 0 3 (i + 1) false hwl
    have hm := h.toSOk.same (m := s.m.put 0 3 (i + 1) (s.m.word (i + 1)) false) hps h.nm
    refine ⟨0, { s with m := s.m.put 0 3 (i + 1) (s.m.word (i + 1)) false }, S, ?_, ⟨hm.mono (by omega) hK, ?_, ?_⟩, hh, rfl, fun j hj => ?_, fun hx => by omega⟩
    · refine lspec tab_ok mix Tryz.func19 (by kernel_rfl) (by rfl) (by rfl) (by rfl) (by rfl) ?_
      ((conv => whnf); (repeat (first | ((first | refine z1 ?_ | refine z2 ?_ | refine z3 ?_ | refine idxB_at (by decide) rfl ?_ | refine atB_at (by decide) (by decide) ?_ | refine getB_lit _ rfl ?_ | refine z7 ?_); conv => whnf) | exact True.intro)))
      rw [hk]
      ((conv => whnf); (repeat (first | ((first | refine z1 ?_ | refine z2 ?_ | refine z3 ?_ | refine idxB_at (by decide) rfl ?_ | refine atB_at (by decide) (by decide) ?_ | refine getB_lit _ rfl ?_ | refine z7 ?_); conv => whnf) | exact True.intro)))
      refine wrUn (by omega) ?_
      ((conv => whnf); (repeat (first | ((first | refine z1 ?_ | refine z2 ?_ | refine z3 ?_ | refine idxB_at (by decide) rfl ?_ | refine atB_at (by decide) (by decide) ?_ | refine getB_lit _ rfl ?_ | refine z7 ?_); conv => whnf) | exact True.intro)))
      rw [hi]
      refine callL (memoryC s) [some 0, some 1, some 2, some 3, some 4] [] rfl ?_
      ((conv => whnf); (repeat (first | ((first | refine z1 ?_ | refine z2 ?_ | refine z3 ?_ | refine idxB_at (by decide) rfl ?_ | refine atB_at (by decide) (by decide) ?_ | refine getB_lit _ rfl ?_ | refine z7 ?_); conv => whnf) | exact True.intro)))
      rw [show (1 + (i : Int)) = ((i + 1 : Nat) : Int) by omega]
      refine callL (wordAtC s.m (i + 1) hwl h.fits.mem) [some 1, some 2, some 3, some 4] [] rfl ?_
      ((conv => whnf); (repeat (first | ((first | refine z1 ?_ | refine z2 ?_ | refine z3 ?_ | refine idxB_at (by decide) rfl ?_ | refine atB_at (by decide) (by decide) ?_ | refine getB_lit _ rfl ?_ | refine z7 ?_); conv => whnf) | exact True.intro)))
      refine callL (memoryC s) [some 0, some 1, some 2, some 3, some 4] [] rfl ?_
      ((conv => whnf); (repeat (first | ((first | refine z1 ?_ | refine z2 ?_ | refine z3 ?_ | refine idxB_at (by decide) rfl ?_ | refine atB_at (by decide) (by decide) ?_ | refine getB_lit _ rfl ?_ | refine z7 ?_); conv => whnf) | exact True.intro)))
      refine callB (rGenC (s.m.word (i + 1)) (by omega)) ?_
      ((conv => whnf); (repeat (first | ((first | refine z1 ?_ | refine z2 ?_ | refine z3 ?_ | refine idxB_at (by decide) rfl ?_ | refine atB_at (by decide) (by decide) ?_ | refine getB_lit _ rfl ?_ | refine z7 ?_); conv => whnf) | exact True.intro)))
      refine callB (rWordC (s.m.word (i + 1) / 4) 1 ⟨⟨hgn.1, by omega⟩, by omega⟩) ?_
      ((conv => whnf); (repeat (first | ((first | refine z1 ?_ | refine z2 ?_ | refine z3 ?_ | refine idxB_at (by decide) rfl ?_ | refine atB_at (by decide) (by decide) ?_ | refine getB_lit _ rfl ?_ | refine z7 ?_); conv => whnf) | exact True.intro)))
      refine callB (rGenC (s.m.word (i + 1)) (by omega)) ?_
      ((conv => whnf); (repeat (first | ((first | refine z1 ?_ | refine z2 ?_ | refine z3 ?_ | refine idxB_at (by decide) rfl ?_ | refine atB_at (by decide) (by decide) ?_ | refine getB_lit _ rfl ?_ | refine z7 ?_); conv => whnf) | exact True.intro)))
      refine callB (rWordC (s.m.word (i + 1) / 4) 3 ⟨⟨hgn.1, by omega⟩, by omega⟩) ?_
      ((conv => whnf); (repeat (first | ((first | refine z1 ?_ | refine z2 ?_ | refine z3 ?_ | refine idxB_at (by decide) rfl ?_ | refine atB_at (by decide) (by decide) ?_ | refine getB_lit _ rfl ?_ | refine z7 ?_); conv => whnf) | exact True.intro)))
      rw [show (1 + (i : Int)) = ((i + 1 : Nat) : Int) by omega]
      refine callL hc [some 1, some 2, some 3, some 4] [] rfl ?_
      ((conv => whnf); (repeat (first | ((first | refine z1 ?_ | refine z2 ?_ | refine z3 ?_ | refine idxB_at (by decide) rfl ?_ | refine atB_at (by decide) (by decide) ?_ | refine getB_lit _ rfl ?_ | refine z7 ?_); conv => whnf) | exact True.intro)))
      refine .mk [(5, 2368)] ?_
      ((conv => whnf); (repeat (first | ((first | refine z1 ?_ | refine z2 ?_ | refine z3 ?_ | refine idxB_at (by decide) rfl ?_ | refine atB_at (by decide) (by decide) ?_ | refine getB_lit _ rfl ?_ | refine z7 ?_); conv => whnf) | exact True.intro)))
    · have := h.log; simp [Mem.put]; omega
    · have := h.viol; show 0 ≤ s.m.viol ∧ s.m.viol ≤ _; omega
    · have e2 : ∀ k, Mem.word (s.m.put 0 3 (i + 1) (s.m.word (i + 1)) false) k = s.m.word k := fun k => by unfold Mem.word at hps ⊢; rw [hps]
      unfold Sto.gn Sto.st
      dsimp only
      rw [e2]
      exact ⟨Int.le_refl _, fun x => .inl x⟩
theorem free_word {s : Sto} {i : Nat} (hw : i + 1 < s.m.words.length) (th : Int) (h0 : 0 ≤ s.m.word (i + 1)) (j : Nat) :
    (s.free1 th i).gn j = (if j = i then s.gn j + 1 else s.gn j) ∧ (s.free1 th i).st j = if j = i then 0 else s.st j := by
  have ew : ∀ j, (s.free1 th i).m.word j = if j = i + 1 then 4 * (s.m.word (i + 1) / 4 + 1) + 0 else s.m.word j := fun j => Mem.word_put _ _ _ _ _ _ _ hw
  unfold Sto.gn Sto.st
  rw [ew]
  by_cases c : j = i
  · subst c; rw [if_pos rfl, if_pos rfl, if_pos rfl]; omega
  · rw [if_neg (by omega), if_neg c, if_neg c]; exact ⟨rfl, rfl⟩
theorem alloc_word {s : Sto} {i : Nat} (hw : i + 1 < s.m.words.length) (th t : Int) (l : List Int) (h0 : 0 ≤ s.m.word (i + 1)) (j : Nat) :
    (s.alloc1 th t l i).gn j = s.gn j ∧ (s.alloc1 th t l i).st j = if j = i then 1 else s.st j := by
  have ew : ∀ j, (s.alloc1 th t l i).m.word j = if j = i + 1 then 4 * (s.m.word (i + 1) / 4) + 1 else s.m.word j := fun j => Mem.word_put _ _ _ _ _ _ _ hw
  unfold Sto.gn Sto.st
  rw [ew]
  by_cases c : j = i
  · subst c; rw [if_pos rfl, if_pos rfl]; omega
  · rw [if_neg (by omega), if_neg c]; exact ⟨rfl, rfl⟩
set_option maxHeartbeats 2000000 in
theorem step2C {n : Nat} {s : Sto} {S : List Item} {K : Nat} (h : SB n s S (fun _ => False) K) (hK : K + 4 ≤ 20000) (hh : s.all4 0) (o : OpS) (ho : o.Ok) (hk : o.kind.tmod 5 = 2) :
    ∃ r t T, LSpec Tryz.prog 19 [.p 0 10 0 0, o.v, V.int n] (stoB s 2) 5 (V.int r) (stoB t 5) 6 ∧ StepR n o s K r t T := by
  obtain ⟨p1, p2⟩ := h.firstP
  have hp := peekSC s 0 p1 h.fits h.smallv (by rw [h.nm]; exact Nat.le_refl _) (by rw [h.nw]; omega)
  obtain ⟨b1, b2, b3⟩ := h.take (by omega) hh (h.toSOk.peek 0)
  have hw0 : 0 < s.m.words.length := by rw [h.nw]; omega
  have rw1 : ∀ j, (s.take 0 (fillG s.q)).st j = s.st j ∧ (s.take 0 (fillG s.q)).gn j = s.gn j := fun j => by rw [take_id hh]; exact replace_word hw0 j
  generalize s.take 0 (fillG s.q) = s1 at *
  cases S with
  | nil =>
    refine ⟨-1, s1, [], ?_, b1.mono (by omega) hK, b2, b3, fun j hj => ?_, fun hx => by omega⟩
    · refine lspec tab_ok mix Tryz.func19 (by kernel_rfl) (by rfl) (by rfl) (by rfl) (by rfl) ?_
      ((conv => whnf); (repeat (first | ((first | refine z1 ?_ | refine z2 ?_ | refine z3 ?_ | refine idxB_at (by decide) rfl ?_ | refine atB_at (by decide) (by decide) ?_ | refine getB_lit _ rfl ?_ | refine z7 ?_); conv => whnf) | exact True.intro)))
      rw [hk]
      ((conv => whnf); (repeat (first | ((first | refine z1 ?_ | refine z2 ?_ | refine z3 ?_ | refine idxB_at (by decide) rfl ?_ | refine atB_at (by decide) (by decide) ?_ | refine getB_lit _ rfl ?_ | refine z7 ?_); conv => whnf) | exact True.intro)))
      refine callL hp [some 0, some 1, some 2, some 3, some 4] [] rfl ?_
      ((conv => whnf); (repeat (first | ((first | refine z1 ?_ | refine z2 ?_ | refine z3 ?_ | refine idxB_at (by decide) rfl ?_ | refine atB_at (by decide) (by decide) ?_ | refine getB_lit _ rfl ?_ | refine z7 ?_); conv => whnf) | exact True.intro)))
      refine .mk [(5, 832)] ?_
      ((conv => whnf); (repeat (first | ((first | refine z1 ?_ | refine z2 ?_ | refine z3 ?_ | refine idxB_at (by decide) rfl ?_ | refine atB_at (by decide) (by decide) ?_ | refine getB_lit _ rfl ?_ | refine z7 ?_); conv => whnf) | exact True.intro)))
    · rw [(rw1 j).1, (rw1 j).2]; exact ⟨Int.le_refl _, fun x => .inl x⟩
  | cons x T =>
    obtain ⟨q1, q2⟩ := b1.firstP
    have hd := dropSC s1 0 q2 b1.fits b1.smallv (by rw [b1.nm]; exact Nat.le_refl _) (by rw [b1.nw]; omega)
    obtain ⟨i, hi, hxi, hl, _, ht⟩ := b1.toSOk.drop 0
    obtain ⟨c1, c2, c3⟩ := b1.take (by omega) b2 ht
    have rw2 : ∀ j, (s1.take 0 (popG s1.q).1).st j = s1.st j ∧ (s1.take 0 (popG s1.q).1).gn j = s1.gn j := fun j => by rw [take_id b2]; exact replace_word (by rw [b1.nw]; omega) j
    have hx : (headI (x :: T)).slot = i := by show x.slot = i; rw [hxi]; rfl
    generalize s1.take 0 (popG s1.q).1 = s2 at *
    have hg2 : 0 ≤ s2.m.word (i + 1) / 4 ∧ s2.m.word (i + 1) / 4 ≤ K + 2 := by
      have := c1.wd i hi
      unfold Sto.gn at this
      omega
    have hkb := c1.kb
    have hf := freeC s2 0 i c1.fits c1.smallv (by rw [c1.nm]; exact Nat.le_refl _) (by rw [c1.ns]; exact hi) (by rw [c1.nw]; omega) ⟨hg2.1, by omega⟩
    rw [Sto.touch_id (th := 0) (l := [3]) (fun j hj => c2 j (by simp at hj; omega))] at hf
    obtain ⟨d1, d2, d3⟩ := ht.free 0 (i := i) (.inr rfl) (by omega)
    rw [show (fun j => (False ∨ j = i) ∧ j ≠ i) = fun _ => False from funext fun j => propext ⟨fun x => x.2 (x.1.resolve_left id), False.elim⟩] at d1
    have hsl : i < s2.slots.length := by rw [c1.ns]; exact hi
    have hwl : i + 1 < s2.m.words.length := by rw [c1.nw]; omega
    refine ⟨x.time, s2.free1 0 i, T, ?_, ⟨d1.mono (by omega) hK, ?_, ?_⟩, c2, by show s2.m.viol = _; rw [c3, b3], fun j hj => ?_, fun hx => by omega⟩
    · refine lspec tab_ok mix Tryz.func19 (by kernel_rfl) (by rfl) (by rfl) (by rfl) (by rfl) ?_
      ((conv => whnf); (repeat (first | ((first | refine z1 ?_ | refine z2 ?_ | refine z3 ?_ | refine idxB_at (by decide) rfl ?_ | refine atB_at (by decide) (by decide) ?_ | refine getB_lit _ rfl ?_ | refine z7 ?_); conv => whnf) | exact True.intro)))
      rw [hk]
      ((conv => whnf); (repeat (first | ((first | refine z1 ?_ | refine z2 ?_ | refine z3 ?_ | refine idxB_at (by decide) rfl ?_ | refine atB_at (by decide) (by decide) ?_ | refine getB_lit _ rfl ?_ | refine z7 ?_); conv => whnf) | exact True.intro)))
      refine callL hp [some 0, some 1, some 2, some 3, some 4] [] rfl ?_
      ((conv => whnf); (repeat (first | ((first | refine z1 ?_ | refine z2 ?_ | refine z3 ?_ | refine idxB_at (by decide) rfl ?_ | refine atB_at (by decide) (by decide) ?_ | refine getB_lit _ rfl ?_ | refine z7 ?_); conv => whnf) | exact True.intro)))
      rw [hx]
      ((conv => whnf); (repeat (first | ((first | refine z1 ?_ | refine z2 ?_ | refine z3 ?_ | refine idxB_at (by decide) rfl ?_ | refine atB_at (by decide) (by decide) ?_ | refine getB_lit _ rfl ?_ | refine z7 ?_); conv => whnf) | exact True.intro)))
      rw [show decide ((i : Int) < 0) = false from decide_eq_false (by omega)]
      ((conv => whnf); (repeat (first | ((first | refine z1 ?_ | refine z2 ?_ | refine z3 ?_ | refine idxB_at (by decide) rfl ?_ | refine atB_at (by decide) (by decide) ?_ | refine getB_lit _ rfl ?_ | refine z7 ?_); conv => whnf) | exact True.intro)))
      rw [show decide ((n : Int) ≤ i) = false from decide_eq_false (by omega)]
      ((conv => whnf); (repeat (first | ((first | refine z1 ?_ | refine z2 ?_ | refine z3 ?_ | refine idxB_at (by decide) rfl ?_ | refine atB_at (by decide) (by decide) ?_ | refine getB_lit _ rfl ?_ | refine z7 ?_); conv => whnf) | exact True.intro)))
      refine callL hd [some 0, some 1, some 832, some 3, some 4] [] rfl ?_
      ((conv => whnf); (repeat (first | ((first | refine z1 ?_ | refine z2 ?_ | refine z3 ?_ | refine idxB_at (by decide) rfl ?_ | refine atB_at (by decide) (by decide) ?_ | refine getB_lit _ rfl ?_ | refine z7 ?_); conv => whnf) | exact True.intro)))
      refine callL hf [some 0, some 1, some 2176, some 3, some 4] [] rfl ?_
      ((conv => whnf); (repeat (first | ((first | refine z1 ?_ | refine z2 ?_ | refine z3 ?_ | refine idxB_at (by decide) rfl ?_ | refine atB_at (by decide) (by decide) ?_ | refine getB_lit _ rfl ?_ | refine z7 ?_); conv => whnf) | exact True.intro)))
      refine .mk [(5, 2432)] ?_
      ((conv => whnf); (repeat (first | ((first | refine z1 ?_ | refine z2 ?_ | refine z3 ?_ | refine idxB_at (by decide) rfl ?_ | refine atB_at (by decide) (by decide) ?_ | refine getB_lit _ rfl ?_ | refine z7 ?_); conv => whnf) | exact True.intro)))
    · have := c1.log; simp [Sto.free1, Mem.store, Mem.put]; omega
    · have := c1.viol; show 0 ≤ s2.m.viol ∧ s2.m.viol ≤ _; push_cast; omega
    · obtain ⟨f1, f2⟩ := free_word hwl 0 (c1.wd i hi).1 j
      rw [f1, f2, (rw2 j).1, (rw2 j).2, (rw1 j).1, (rw1 j).2]
      by_cases c : j = i
      · rw [if_pos c, if_pos c]; exact ⟨by omega, fun _ => .inr (by omega)⟩
      · rw [if_neg c, if_neg c]; exact ⟨Int.le_refl _, fun x => .inl x⟩
set_option maxHeartbeats 2000000 in
theorem step0C {n : Nat} {s : Sto} {S : List Item} {K : Nat} (h : SB n s S (fun _ => False) K) (hK : K + 4 ≤ 20000) (hh : s.all4 0) (o : OpS) (ho : o.Ok) (hk : o.kind.tmod 5 = 0 ∨ o.kind.tmod 5 = 1) :
    ∃ r t T, LSpec Tryz.prog 19 [.p 0 10 0 0, o.v, V.int n] (stoB s 2) 5 (V.int r) (stoB t 5) 6 ∧ StepR n o s K r t T := by
  have htm := timeSC o ho
  have hto := OpS.time_ok ho
  have h3 : s.touch 0 [3] = s := Sto.touch_id (th := 0) (l := [3]) (fun j hj => hh j (by simp at hj; omega))
  have hnm : 4 ≤ s.m.mtx.length := by rw [h.nm]; exact Nat.le_refl _
  rcases h.last with hid | ⟨l, i, hid, hi, h0, _⟩
  · have ha := allocNo s 0 o.time hid h.fits hnm
    rw [h3] at ha
    refine ⟨-1, s, S, ?_, h.mono (by omega) hK, hh, rfl, fun j hj => ⟨Int.le_refl _, fun x => .inl x⟩, fun _ => .inl ⟨rfl, hid⟩⟩
    rcases hk with hk | hk
    · refine lspec tab_ok mix Tryz.func19 (by kernel_rfl) (by rfl) (by rfl) (by rfl) (by rfl) ?_
      ((conv => whnf); (repeat (first | ((first | refine z1 ?_ | refine z2 ?_ | refine z3 ?_ | refine idxB_at (by decide) rfl ?_ | refine atB_at (by decide) (by decide) ?_ | refine getB_lit _ rfl ?_ | refine z7 ?_); conv => whnf) | exact True.intro)))
      rw [hk]
      ((conv => whnf); (repeat (first | ((first | refine z1 ?_ | refine z2 ?_ | refine z3 ?_ | refine idxB_at (by decide) rfl ?_ | refine atB_at (by decide) (by decide) ?_ | refine getB_lit _ rfl ?_ | refine z7 ?_); conv => whnf) | exact True.intro)))
      refine callB htm ?_
      ((conv => whnf); (repeat (first | ((first | refine z1 ?_ | refine z2 ?_ | refine z3 ?_ | refine idxB_at (by decide) rfl ?_ | refine atB_at (by decide) (by decide) ?_ | refine getB_lit _ rfl ?_ | refine z7 ?_); conv => whnf) | exact True.intro)))
      refine callL ha [some 0, some 1, some 2, some 3, some 4] [] rfl ?_
      ((conv => whnf); (repeat (first | ((first | refine z1 ?_ | refine z2 ?_ | refine z3 ?_ | refine idxB_at (by decide) rfl ?_ | refine atB_at (by decide) (by decide) ?_ | refine getB_lit _ rfl ?_ | refine z7 ?_); conv => whnf) | exact True.intro)))
      refine .mk [(5, 704)] ?_
      ((conv => whnf); (repeat (first | ((first | refine z1 ?_ | refine z2 ?_ | refine z3 ?_ | refine idxB_at (by decide) rfl ?_ | refine atB_at (by decide) (by decide) ?_ | refine getB_lit _ rfl ?_ | refine z7 ?_); conv => whnf) | exact True.intro)))
    · refine lspec tab_ok mix Tryz.func19 (by kernel_rfl) (by rfl) (by rfl) (by rfl) (by rfl) ?_
      ((conv => whnf); (repeat (first | ((first | refine z1 ?_ | refine z2 ?_ | refine z3 ?_ | refine idxB_at (by decide) rfl ?_ | refine atB_at (by decide) (by decide) ?_ | refine getB_lit _ rfl ?_ | refine z7 ?_); conv => whnf) | exact True.intro)))
      rw [hk]
      ((conv => whnf); (repeat (first | ((first | refine z1 ?_ | refine z2 ?_ | refine z3 ?_ | refine idxB_at (by decide) rfl ?_ | refine atB_at (by decide) (by decide) ?_ | refine getB_lit _ rfl ?_ | refine z7 ?_); conv => whnf) | exact True.intro)))
      refine callB htm ?_
      ((conv => whnf); (repeat (first | ((first | refine z1 ?_ | refine z2 ?_ | refine z3 ?_ | refine idxB_at (by decide) rfl ?_ | refine atB_at (by decide) (by decide) ?_ | refine getB_lit _ rfl ?_ | refine z7 ?_); conv => whnf) | exact True.intro)))
      refine callL ha [some 0, some 1, some 2, some 3, some 4] [] rfl ?_
      ((conv => whnf); (repeat (first | ((first | refine z1 ?_ | refine z2 ?_ | refine z3 ?_ | refine idxB_at (by decide) rfl ?_ | refine atB_at (by decide) (by decide) ?_ | refine getB_lit _ rfl ?_ | refine z7 ?_); conv => whnf) | exact True.intro)))
      refine .mk [(5, 832)] ?_
      ((conv => whnf); (repeat (first | ((first | refine z1 ?_ | refine z2 ?_ | refine z3 ?_ | refine idxB_at (by decide) rfl ?_ | refine atB_at (by decide) (by decide) ?_ | refine getB_lit _ rfl ?_ | refine z7 ?_); conv => whnf) | exact True.intro)))
  · have hn := h.n12
    have hkb := h.kb
    have hwd := h.wd i hi
    have hg : 0 ≤ s.m.word (i + 1) / 4 ∧ s.m.word (i + 1) / 4 ≤ K := ⟨by omega, hwd.2⟩
    have hwl : i + 1 < s.m.words.length := by rw [h.nw]; omega
    have ha := allocC s 0 o.time l i hid h.fits h.smallv hnm (by rw [h.ns]; exact hi) hwl (by omega) ⟨hg.1, by omega⟩
    rw [h3] at ha
    obtain ⟨a1, a2, a3, a4⟩ := h.toSOk.alloc 0 o.time hto hid hi (by omega)
    have hw1 := alloc_word hwl 0 o.time l hwd.1
    have hs1 : SB n (s.alloc1 0 o.time l i) S (fun j => False ∨ j = i) (K + 1) := ⟨a1, by have := h.log; simp [Sto.alloc1, Mem.store, Mem.put]; omega, by have := h.viol; show 0 ≤ s.m.viol ∧ s.m.viol ≤ _; push_cast; omega⟩
    have hh1 : (s.alloc1 0 o.time l i).all4 0 := hh
    have hv1 : (s.alloc1 0 o.time l i).m.viol = s.m.viol := rfl
    generalize s.alloc1 0 o.time l i = s1 at *
    obtain ⟨p1, p2, _⟩ := hs1.toSOk.put 0 (i := i) (.inr rfl) (by omega)
    obtain ⟨r1, r2⟩ := hs1.rungs
    have hp := putSC s1 0 i (by rw [hs1.ns]; exact hi) hs1.fits hs1.smallv (by rw [hs1.nm]; exact Nat.le_refl _) r1 r2 p2
    have hpl : ∀ j ∈ s1.putL (s1.slot i).time, j < 4 := fun j hj => by
      unfold Sto.putL at hj
      split at hj
      · simp at hj; omega
      · split at hj <;> simp at hj <;> omega
    have hpt : s1.put 0 i = { s1 with q := insLad s1.q (s1.item i) } := by
      unfold Sto.put
      rw [Sto.touch_id (th := 0) fun j hj => hh1 j (hpl j hj)]
    rw [hpt] at hp p1
    rw [show (fun j => (False ∨ j = i) ∧ j ≠ i) = fun _ => False from funext fun j => propext ⟨fun x => x.2 (x.1.resolve_left id), False.elim⟩] at p1
    have hsl : slotH (64 * (s.m.word (i + 1) / 4) + i) = i := by
      unfold slotH
      rw [if_pos ⟨by omega, by omega⟩]; omega
    have hne : s.idle ≠ [] := by rw [hid]; simp
    have hmod : ((i : Int)).tmod n = i := by rw [Int.tmod_eq_emod_of_nonneg (by omega)]; exact Int.emod_eq_of_lt (by omega) (by omega)
    refine ⟨64 * (s.m.word (i + 1) / 4) + i, { s1 with q := insLad s1.q (s1.item i) }, _, ?_, ⟨p1.mono (by omega) hK, by have := hs1.log; show s1.m.log.length ≤ _; omega, by have := hs1.viol; show 0 ≤ s1.m.viol ∧ s1.m.viol ≤ _; push_cast at *; omega⟩, hh1, hv1, fun j hj => ?_, fun _ => .inr ⟨i, hi, h0, hne, rfl, a3, a4⟩⟩
    · rcases hk with hk | hk
      · refine lspec tab_ok mix Tryz.func19 (by kernel_rfl) (by rfl) (by rfl) (by rfl) (by rfl) ?_
        ((conv => whnf); (repeat (first | ((first | refine z1 ?_ | refine z2 ?_ | refine z3 ?_ | refine idxB_at (by decide) rfl ?_ | refine atB_at (by decide) (by decide) ?_ | refine getB_lit _ rfl ?_ | refine z7 ?_); conv => whnf) | exact True.intro)))
        rw [hk]
        ((conv => whnf); (repeat (first | ((first | refine z1 ?_ | refine z2 ?_ | refine z3 ?_ | refine idxB_at (by decide) rfl ?_ | refine atB_at (by decide) (by decide) ?_ | refine getB_lit _ rfl ?_ | refine z7 ?_); conv => whnf) | exact True.intro)))
        refine callB htm ?_
        ((conv => whnf); (repeat (first | ((first | refine z1 ?_ | refine z2 ?_ | refine z3 ?_ | refine idxB_at (by decide) rfl ?_ | refine atB_at (by decide) (by decide) ?_ | refine getB_lit _ rfl ?_ | refine z7 ?_); conv => whnf) | exact True.intro)))
        refine callL ha [some 0, some 1, some 2, some 3, some 4] [] rfl ?_
        ((conv => whnf); (repeat (first | ((first | refine z1 ?_ | refine z2 ?_ | refine z3 ?_ | refine idxB_at (by decide) rfl ?_ | refine atB_at (by decide) (by decide) ?_ | refine getB_lit _ rfl ?_ | refine z7 ?_); conv => whnf) | exact True.intro)))
        refine callB (rSlotC (64 * (s.m.word (i + 1) / 4) + i)) ?_
        rw [hsl]
        ((conv => whnf); (repeat (first | ((first | refine z1 ?_ | refine z2 ?_ | refine z3 ?_ | refine idxB_at (by decide) rfl ?_ | refine atB_at (by decide) (by decide) ?_ | refine getB_lit _ rfl ?_ | refine z7 ?_); conv => whnf) | exact True.intro)))
        rw [hmod]
        ((conv => whnf); (repeat (first | ((first | refine z1 ?_ | refine z2 ?_ | refine z3 ?_ | refine idxB_at (by decide) rfl ?_ | refine atB_at (by decide) (by decide) ?_ | refine getB_lit _ rfl ?_ | refine z7 ?_); conv => whnf) | exact True.intro)))
        refine callL hp [some 0, some 1, some 704, some 3, some 4] [] rfl ?_
        ((conv => whnf); (repeat (first | ((first | refine z1 ?_ | refine z2 ?_ | refine z3 ?_ | refine idxB_at (by decide) rfl ?_ | refine atB_at (by decide) (by decide) ?_ | refine getB_lit _ rfl ?_ | refine z7 ?_); conv => whnf) | exact True.intro)))
        refine .mk [(5, 704)] ?_
        ((conv => whnf); (repeat (first | ((first | refine z1 ?_ | refine z2 ?_ | refine z3 ?_ | refine idxB_at (by decide) rfl ?_ | refine atB_at (by decide) (by decide) ?_ | refine getB_lit _ rfl ?_ | refine z7 ?_); conv => whnf) | exact True.intro)))
      · refine lspec tab_ok mix Tryz.func19 (by kernel_rfl) (by rfl) (by rfl) (by rfl) (by rfl) ?_
        ((conv => whnf); (repeat (first | ((first | refine z1 ?_ | refine z2 ?_ | refine z3 ?_ | refine idxB_at (by decide) rfl ?_ | refine atB_at (by decide) (by decide) ?_ | refine getB_lit _ rfl ?_ | refine z7 ?_); conv => whnf) | exact True.intro)))
        rw [hk]
        ((conv => whnf); (repeat (first | ((first | refine z1 ?_ | refine z2 ?_ | refine z3 ?_ | refine idxB_at (by decide) rfl ?_ | refine atB_at (by decide) (by decide) ?_ | refine getB_lit _ rfl ?_ | refine z7 ?_); conv => whnf) | exact True.intro)))
        refine callB htm ?_
        ((conv => whnf); (repeat (first | ((first | refine z1 ?_ | refine z2 ?_ | refine z3 ?_ | refine idxB_at (by decide) rfl ?_ | refine atB_at (by decide) (by decide) ?_ | refine getB_lit _ rfl ?_ | refine z7 ?_); conv => whnf) | exact True.intro)))
        refine callL ha [some 0, some 1, some 2, some 3, some 4] [] rfl ?_
        ((conv => whnf); (repeat (first | ((first | refine z1 ?_ | refine z2 ?_ | refine z3 ?_ | refine idxB_at (by decide) rfl ?_ | refine atB_at (by decide) (by decide) ?_ | refine getB_lit _ rfl ?_ | refine z7 ?_); conv => whnf) | exact True.intro)))
        refine callB (rSlotC (64 * (s.m.word (i + 1) / 4) + i)) ?_
        rw [hsl]
        ((conv => whnf); (repeat (first | ((first | refine z1 ?_ | refine z2 ?_ | refine z3 ?_ | refine idxB_at (by decide) rfl ?_ | refine atB_at (by decide) (by decide) ?_ | refine getB_lit _ rfl ?_ | refine z7 ?_); conv => whnf) | exact True.intro)))
        rw [hmod]
        ((conv => whnf); (repeat (first | ((first | refine z1 ?_ | refine z2 ?_ | refine z3 ?_ | refine idxB_at (by decide) rfl ?_ | refine atB_at (by decide) (by decide) ?_ | refine getB_lit _ rfl ?_ | refine z7 ?_); conv => whnf) | exact True.intro)))
        refine callL hp [some 0, some 1, some 832, some 3, some 4] [] rfl ?_
        ((conv => whnf); (repeat (first | ((first | refine z1 ?_ | refine z2 ?_ | refine z3 ?_ | refine idxB_at (by decide) rfl ?_ | refine atB_at (by decide) (by decide) ?_ | refine getB_lit _ rfl ?_ | refine z7 ?_); conv => whnf) | exact True.intro)))
        refine .mk [(5, 832)] ?_
        ((conv => whnf); (repeat (first | ((first | refine z1 ?_ | refine z2 ?_ | refine z3 ?_ | refine idxB_at (by decide) rfl ?_ | refine atB_at (by decide) (by decide) ?_ | refine getB_lit _ rfl ?_ | refine z7 ?_); conv => whnf) | exact True.intro)))
    · show s.gn j ≤ s1.gn j ∧ (s.st j ≠ 0 → s1.st j ≠ 0 ∨ s.gn j < s1.gn j)
      rw [(hw1 j).1, (hw1 j).2]
      refine ⟨Int.le_refl _, fun x => .inl ?_⟩
      split
      · omega
      · exact x
end Go.Proofs.YtajgcanfngcfhaaGreat.Abs
