/- Laws of stores as contracts: who may touch what. -/
import Derived.Test.YtajgcanfngcfhaaGreatH17
namespace Go.Proofs.YtajgcanfngcfhaaGreat.Abs
open Go.Proofs
set_option maxRecDepth 10000
set_option linter.unusedSimpArgs false
set_option linter.unusedVariables false
theorem stepSC {n : Nat} {s : Sto} {S : List Item} {K : Nat} (h : SB n s S (fun _ => False) K) (hK : K + 4 ≤ 20000) (hh : s.all4 0) (o : OpS) (ho : o.Ok) :
    ∃ r t T, LSpec Tryz.prog 19 [.p 0 10 0 0, o.v, V.int n] (stoB s 2) 5 (V.int r) (stoB t 5) 6 ∧ StepR n o s K r t T := by
  have h1 := Int.tmod_nonneg (b := 5) ho.kind.1
  have h2 := (tmod_bounds o.kind 5 (by omega)).2
  have : o.kind.tmod 5 = 0 ∨ o.kind.tmod 5 = 1 ∨ o.kind.tmod 5 = 2 ∨ o.kind.tmod 5 = 3 ∨ o.kind.tmod 5 = 4 := by omega
  rcases this with e | e | e | e | e
  · exact step0C h hK hh o ho (.inl e)
  · exact step0C h hK hh o ho (.inr e)
  · exact step2C h hK hh o ho e
  · exact step3C h hK hh o ho e
  · exact step4C h hK hh o ho e
structure Run where
  i : Nat
  s : Sto
  S : List Item
structure RunOk (n : Nat) (l : List OpS) (x : Run) : Prop where
  i : x.i ≤ l.length
  ok : SB n x.s x.S (fun _ => False) (4 * x.i)
  held : x.s.all4 0
  viol : x.s.m.viol = 0
/-- the five blocks of a store under the names from a on, its log under l -/
def stoAt (s : Sto) (a l : Nat) : List (Nat × B) := [(a, .rows 10 [stoC s (a + 1)]), (a + 1, memR s.m l (a + 3) (a + 4)), (l, logD s.m), (a + 3, wordsD s.m), (a + 4, mtxD s.m)]
theorem touches_count {th : Int} : ∀ (l : List Nat) (m : Mem), (∀ i ∈ l, m.held i ≠ (true, th)) → (m.touches th l).viol = m.viol + l.length
  | [], m, _ => by simp [Mem.touches]
  | i :: l, m, h => by
    have e : m.touch th i = { m with viol := m.viol + 1 } := by unfold Mem.touch; rw [if_neg (h i List.mem_cons_self)]
    have := touches_count l { m with viol := m.viol + 1 } fun j hj => h j (List.mem_cons_of_mem _ hj)
    show ((m.touch th i).touches th l).viol = _
    rw [e, this, List.length_cons]
    dsimp only
    push_cast; omega
theorem runOk_zero {n : Nat} (h : 1 ≤ n ∧ n ≤ 12) (l : List OpS) : RunOk n l ⟨0, heldN n 4, []⟩ := by
  obtain ⟨b, a, v⟩ := heldN_ok h (i := 4) (by omega)
  exact ⟨Nat.zero_le _, b, fun i hi => by rw [a i hi, if_pos hi], v⟩
theorem RunOk.next {n : Nat} {l : List OpS} {x : Run} (h : RunOk n l x) {o : OpS} {r : Int} {t : Sto} {T : List Item} (hi : x.i < l.length) (hs : StepR n o x.s (4 * x.i) r t T) : RunOk n l ⟨x.i + 1, t, T⟩ :=
  ⟨hi, hs.ok, hs.held, by show t.m.viol = 0; rw [hs.viol]; exact h.viol⟩
def capN (c : Int) : Nat := (c.tmod 12 + 1).toNat
theorem capN_ok {c : Int} (h : 0 ≤ c) : c.tmod 12 + 1 = (capN c : Int) ∧ 1 ≤ capN c ∧ capN c ≤ 12 := by
  have h1 := Int.tmod_nonneg (b := 12) h
  have h2 := (tmod_bounds c 12 (by omega)).2
  unfold capN
  omega
set_option maxHeartbeats 4000000 in
theorem storeDiscipline (c : Int) (hc : 0 ≤ c ∧ c ≤ 255) (l : List OpS) (hl : ∀ o ∈ l, o.Ok) (t : Int) (ht : 0 ≤ t ∧ t ≤ 4294967295) :
    PSpec Tryz.prog 3 [.c (.int .u8 c), opsSV l, .c (.int .u32 t)] (V.bool true) := by
  obtain ⟨e1, hn⟩ := capN_ok hc.1
  generalize capN c = n at *
  have hh := heldC n hn
  have hz := runOk_zero hn l
  generalize heldN n 4 = s0 at *
  refine pspec tab_ok mix Tryz.func3 (by kernel_rfl) rfl rfl ?_
  ((conv => whnf); (repeat (first | ((first | refine z1 ?_ | refine z2 ?_ | refine z3 ?_ | refine idxB_at (by decide) rfl ?_ | refine atB_at (by decide) (by decide) ?_ | refine getB_lit _ rfl ?_ | refine z7 ?_); conv => whnf) | exact True.intro)))
  refine callB head11C ?_
  ((conv => whnf); (repeat (first | ((first | refine z1 ?_ | refine z2 ?_ | refine z3 ?_ | refine idxB_at (by decide) rfl ?_ | refine atB_at (by decide) (by decide) ?_ | refine getB_lit _ rfl ?_ | refine z7 ?_); conv => whnf) | exact True.intro)))
  rw [e1]
  refine callL hh [] [] rfl ?_
  ((conv => whnf); (repeat (first | ((first | refine z1 ?_ | refine z2 ?_ | refine z3 ?_ | refine idxB_at (by decide) rfl ?_ | refine atB_at (by decide) (by decide) ?_ | refine getB_lit _ rfl ?_ | refine z7 ?_); conv => whnf) | exact True.intro)))
  refine br_dec (fun g => ?_) (fun g => ?_) <;> ((conv => whnf); (repeat (first | ((first | refine z1 ?_ | refine z2 ?_ | refine z3 ?_ | refine idxB_at (by decide) rfl ?_ | refine atB_at (by decide) (by decide) ?_ | refine getB_lit _ rfl ?_ | refine z7 ?_); conv => whnf) | exact True.intro)))
  · exact .same rfl
  have hll : l.length ≤ 80 := by simp at g; omega
  refine loopB tab_ok mix [1, 2, 7, 8, 9] [] (fun x : Run => [(10, V.int x.i)]) (fun x => stoAt x.s 576 1) (RunOk n l) (fun x => l.length - x.i) [(1, 578)] ⟨0, s0, []⟩ rfl hz (by ((conv => whnf); (repeat (first | ((first | refine z1 ?_ | refine z2 ?_ | refine z3 ?_ | refine idxB_at (by decide) rfl ?_ | refine atB_at (by decide) (by decide) ?_ | refine getB_lit _ rfl ?_ | refine z7 ?_); conv => whnf) | exact True.intro)))) ?_
  rintro ⟨i, s, S⟩ hx
  have hi := hx.i
  have hb := hx.ok
  dsimp only at hi hb
  ((conv => whnf); (repeat (first | ((first | refine z1 ?_ | refine z2 ?_ | refine z3 ?_ | refine idxB_at (by decide) rfl ?_ | refine atB_at (by decide) (by decide) ?_ | refine getB_lit _ rfl ?_ | refine z7 ?_); conv => whnf) | exact True.intro)))
  refine br_dec (fun u => ?_) (fun u => ?_) <;> ((conv => whnf); (repeat (first | ((first | refine z1 ?_ | refine z2 ?_ | refine z3 ?_ | refine idxB_at (by decide) rfl ?_ | refine atB_at (by decide) (by decide) ?_ | refine getB_lit _ rfl ?_ | refine z7 ?_); conv => whnf) | exact True.intro)))
  · have u' : i < l.length := by simpa using u
    obtain ⟨o, ho⟩ := get_lt u'
    obtain ⟨r, t', T, hs, hst⟩ := stepSC hb (by omega) hx.held o (hl o (List.mem_of_getElem? ho))
    refine idxB ho ?_
    ((conv => whnf); (repeat (first | ((first | refine z1 ?_ | refine z2 ?_ | refine z3 ?_ | refine idxB_at (by decide) rfl ?_ | refine atB_at (by decide) (by decide) ?_ | refine getB_lit _ rfl ?_ | refine z7 ?_); conv => whnf) | exact True.intro)))
    refine callL hs [some 576, some 577, some 1, some 579, some 580] [] rfl ?_
    ((conv => whnf); (repeat (first | ((first | refine z1 ?_ | refine z2 ?_ | refine z3 ?_ | refine idxB_at (by decide) rfl ?_ | refine atB_at (by decide) (by decide) ?_ | refine getB_lit _ rfl ?_ | refine z7 ?_); conv => whnf) | exact True.intro)))
    refine .mk [(1, 1856)] ⟨i + 1, t', T⟩ (hx.next u' hst) (by dsimp only; omega) ?_
    ((conv => whnf); (repeat (first | ((first | refine z1 ?_ | refine z2 ?_ | refine z3 ?_ | refine idxB_at (by decide) rfl ?_ | refine atB_at (by decide) (by decide) ?_ | refine getB_lit _ rfl ?_ | refine z7 ?_); conv => whnf) | exact True.intro)))
  · have hv := hx.viol
    have hal := hx.held
    dsimp only at hv hal
    have hno : ∀ j, j < 4 → s.m.held j ≠ (true, 1) := fun j hj => by rw [hal j hj]; decide
    refine callL (memoryC s) [some 576, some 577, some 1, some 579, some 580] [] rfl ?_
    ((conv => whnf); (repeat (first | ((first | refine z1 ?_ | refine z2 ?_ | refine z3 ?_ | refine idxB_at (by decide) rfl ?_ | refine atB_at (by decide) (by decide) ?_ | refine getB_lit _ rfl ?_ | refine z7 ?_); conv => whnf) | exact True.intro)))
    have v0 := violC s.m
    rw [hv] at v0
    refine callL v0 [some 577, some 1, some 579, some 580] [] rfl ?_
    ((conv => whnf); (repeat (first | ((first | refine z1 ?_ | refine z2 ?_ | refine z3 ?_ | refine idxB_at (by decide) rfl ?_ | refine atB_at (by decide) (by decide) ?_ | refine getB_lit _ rfl ?_ | refine z7 ?_); conv => whnf) | exact True.intro)))
    have hm4 : 4 ≤ s.m.mtx.length := by rw [hb.nm]; exact Nat.le_refl _
    obtain ⟨r1, r2⟩ := hb.rungs
    refine callL (acceptsC s 1 t hb.fits hm4 r1 r2) [some 576, some 577, some 1, some 579, some 580] [] rfl ?_
    have c1 : (s.touch 1 [1]).m.viol = 1 := by
      show (s.m.touches 1 [1]).viol = 1
      rw [touches_count [1] s.m fun j hj => hno j (by simp at hj; omega), hv]; rfl
    have b1 : SB n (s.touch 1 [1]) S (fun _ => False) (4 * i + 1) := by
      obtain ⟨t1, t2, t3, _⟩ := touches_same 1 [1] s.m
      exact ⟨(hb.toSOk.touch 1 [1]).mono (by omega) (by omega), by show (s.m.touches 1 [1]).log.length ≤ _; rw [t3]; have := hb.log; omega, by rw [c1]; omega⟩
    have n1 : ∀ j, j < 4 → (s.touch 1 [1]).m.held j ≠ (true, 1) := fun j hj => by
      obtain ⟨t1, t2, t3, _⟩ := touches_same 1 [1] s.m
      have := hno j hj
      unfold Mem.held at this ⊢
      show ((s.m.touches 1 [1]).mtx[j]?).getD (false, 0) ≠ _
      rw [t2]; exact this
    rw [show (s.accepts 1 t) = (s.touch 1 [1], accQ s.q t) from rfl]
    dsimp only
    generalize s.touch 1 [1] = s1 at *
    ((conv => whnf); (repeat (first | ((first | refine z1 ?_ | refine z2 ?_ | refine z3 ?_ | refine idxB_at (by decide) rfl ?_ | refine atB_at (by decide) (by decide) ?_ | refine getB_lit _ rfl ?_ | refine z7 ?_); conv => whnf) | exact True.intro)))
    refine callL (memoryC s1) [some 576, some 577, some 1, some 579, some 580] [] rfl ?_
    ((conv => whnf); (repeat (first | ((first | refine z1 ?_ | refine z2 ?_ | refine z3 ?_ | refine idxB_at (by decide) rfl ?_ | refine atB_at (by decide) (by decide) ?_ | refine getB_lit _ rfl ?_ | refine z7 ?_); conv => whnf) | exact True.intro)))
    have v1 := violC s1.m
    rw [c1] at v1
    refine callL v1 [some 577, some 1, some 579, some 580] [] rfl ?_
    ((conv => whnf); (repeat (first | ((first | refine z1 ?_ | refine z2 ?_ | refine z3 ?_ | refine idxB_at (by decide) rfl ?_ | refine atB_at (by decide) (by decide) ?_ | refine getB_lit _ rfl ?_ | refine z7 ?_); conv => whnf) | exact True.intro)))
    obtain ⟨p1, p2⟩ := b1.firstP
    have hp := peekSC s1 1 p1 b1.fits b1.smallv (by rw [b1.nm]; exact Nat.le_refl _) (by rw [b1.nw]; omega)
    obtain ⟨q1, q2, q3, q4⟩ := replace_keeps (s1.touch 1 [0, 1, 2]) 1 (fillG s1.q)
    obtain ⟨t1, t2, t3, t4, t5⟩ := touches_same 1 [0, 1, 2] s1.m
    have c2 : (s1.take 1 (fillG s1.q)).m.viol = 4 := by
      show ((s1.touch 1 [0, 1, 2]).replace 1 (fillG s1.q)).m.viol = 4
      rw [q2]
      show (s1.m.touches 1 [0, 1, 2]).viol = 4
      rw [touches_count [0, 1, 2] s1.m fun j hj => n1 j (by simp at hj; omega), c1]; rfl
    have b2 : SB n (s1.take 1 (fillG s1.q)) S (fun _ => False) (4 * i + 2) := by
      refine ⟨(b1.toSOk.peek 1).mono (by omega) (by omega), ?_, by rw [c2]; omega⟩
      have q3 : (s1.take 1 (fillG s1.q)).m.log.length ≤ (s1.m.touches 1 [0, 1, 2]).log.length + 1 := q3
      rw [t3] at q3
      have := b1.log
      omega
    have n2 : ∀ j, j < 4 → (s1.take 1 (fillG s1.q)).m.held j ≠ (true, 1) := fun j hj => by
      have := n1 j hj
      unfold Mem.held at this ⊢
      show (((s1.touch 1 [0, 1, 2]).replace 1 (fillG s1.q)).m.mtx[j]?).getD (false, 0) ≠ _
      rw [q1]
      show ((s1.m.touches 1 [0, 1, 2]).mtx[j]?).getD (false, 0) ≠ _
      rw [t2]; exact this
    clear q1 q2 q3 q4 t1 t2 t3 t4 t5
    generalize s1.take 1 (fillG s1.q) = s2 at *
    refine callL hp [some 576, some 577, some 1, some 579, some 580] [] rfl ?_
    ((conv => whnf); (repeat (first | ((first | refine z1 ?_ | refine z2 ?_ | refine z3 ?_ | refine idxB_at (by decide) rfl ?_ | refine atB_at (by decide) (by decide) ?_ | refine getB_lit _ rfl ?_ | refine z7 ?_); conv => whnf) | exact True.intro)))
    refine callL (memoryC s2) [some 576, some 577, some 2304, some 579, some 580] [] rfl ?_
    ((conv => whnf); (repeat (first | ((first | refine z1 ?_ | refine z2 ?_ | refine z3 ?_ | refine idxB_at (by decide) rfl ?_ | refine atB_at (by decide) (by decide) ?_ | refine getB_lit _ rfl ?_ | refine z7 ?_); conv => whnf) | exact True.intro)))
    have v2 := violC s2.m
    rw [c2] at v2
    refine callL v2 [some 577, some 2304, some 579, some 580] [] rfl ?_
    ((conv => whnf); (repeat (first | ((first | refine z1 ?_ | refine z2 ?_ | refine z3 ?_ | refine idxB_at (by decide) rfl ?_ | refine atB_at (by decide) (by decide) ?_ | refine getB_lit _ rfl ?_ | refine z7 ?_); conv => whnf) | exact True.intro)))
    have ha : ∃ r b s3, LSpec Tryz.prog 24 [.p 0 10 0 0, V.int 1, V.int t] (stoB s2 2) 5 (.tup [V.int r, V.bool b]) (stoB s3 5) 6 ∧ s3.m.viol = 5 := by
      have c3 : (s2.touch 1 [3]).m.viol = 5 := by
        show (s2.m.touches 1 [3]).viol = 5
        rw [touches_count [3] s2.m fun j hj => n2 j (by simp at hj; omega), c2]; rfl
      rcases b2.last with hid | ⟨l', j, hid, hj, _, _⟩
      · exact ⟨0, false, _, allocNo s2 1 t hid b2.fits (by rw [b2.nm]; exact Nat.le_refl _), c3⟩
      · have hwd := b2.wd j hj
        have hg : 0 ≤ s2.m.word (j + 1) / 4 ∧ s2.m.word (j + 1) / 4 ≤ ((4 * i + 2 : Nat) : Int) := ⟨by omega, hwd.2⟩
        have := hb.kb
        exact ⟨_, true, _, allocC s2 1 t l' j hid b2.fits b2.smallv (by rw [b2.nm]; exact Nat.le_refl _) (by rw [b2.ns]; exact hj) (by rw [b2.nw]; omega) (by omega) ⟨hg.1, by omega⟩, c3⟩
    obtain ⟨r3, bb, s3, ha, c3⟩ := ha
    refine callL ha [some 576, some 577, some 2304, some 579, some 580] [] rfl ?_
    ((conv => whnf); (repeat (first | ((first | refine z1 ?_ | refine z2 ?_ | refine z3 ?_ | refine idxB_at (by decide) rfl ?_ | refine atB_at (by decide) (by decide) ?_ | refine getB_lit _ rfl ?_ | refine z7 ?_); conv => whnf) | exact True.intro)))
    refine callL (memoryC s3) [some 576, some 577, some 2816, some 579, some 580] [] rfl ?_
    ((conv => whnf); (repeat (first | ((first | refine z1 ?_ | refine z2 ?_ | refine z3 ?_ | refine idxB_at (by decide) rfl ?_ | refine atB_at (by decide) (by decide) ?_ | refine getB_lit _ rfl ?_ | refine z7 ?_); conv => whnf) | exact True.intro)))
    have v3 := violC s3.m
    rw [c3] at v3
    refine callL v3 [some 577, some 2816, some 579, some 580] [] rfl ?_
    ((conv => whnf); (repeat (first | ((first | refine z1 ?_ | refine z2 ?_ | refine z3 ?_ | refine idxB_at (by decide) rfl ?_ | refine atB_at (by decide) (by decide) ?_ | refine getB_lit _ rfl ?_ | refine z7 ?_); conv => whnf) | exact True.intro)))
    exact .same rfl
end Go.Proofs.YtajgcanfngcfhaaGreat.Abs
