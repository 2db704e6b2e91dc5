/- Laws of stores as contracts: who may touch what. -/
import Derived.Test.YtajgcanfngcfhaaGreatH17
namespace Go.Proofs.YtajgcanfngcfhaaGreat.Abs
open Go.Proofs
set_option maxRecDepth 10000
set_option linter.unusedSimpArgs false
set_option linter.unusedVariables false
theorem stepSC {n : Nat} {s : Sto} {S : List Item} {K : Nat} (h : SB n s S (fun _ => False) K) (hK : K + 4 ≤ 20000) (hh : s.all4 0) (o : OpS) (ho : o.Ok) :
    ∃ r t T, LSpec Tryz.prog 19 [.p 0 10 0 0, o.v, V.int n] (stoB s 2) 5 (V.int r) (stoB t 5) 6 ∧ StepR n o s K r t T := by
  have h1 := Int.tmod_nonneg (b := 5) ho.kind.1
  have h2 := (tmod_bounds o.kind 5 (by omega)).2
  have : o.kind.tmod 5 = 0 ∨ o.kind.tmod 5 = 1 ∨ o.kind.tmod 5 = 2 ∨ o.kind.tmod 5 = 3 ∨ o.kind.tmod 5 = 4 := by omega
  rcases this with e | e | e | e | e
  · exact step0C h hK hh o ho (.inl e)
  · exact step0C h hK hh o ho (.inr e)
  · exact step2C h hK hh o ho e
  · exact step3C h hK hh o ho e
  · exact step4C h hK hh o ho e
structure Run where
  i : Nat
  s : Sto
  S : List Item
structure RunOk (n : Nat) (l : List OpS) (x : Run) : Prop where
  i : x.i ≤ l.length
  ok : SB n x.s x.S (fun _ => False) (4 * x.i)
  held : x.s.all4 0
  viol : x.s.m.viol = 0
/-- the five blocks of a store under the names from a on, its log under l -/
def stoAt (s : Sto) (a l : Nat) : List (Nat × B) := [(a, .rows 10 [stoC s (a + 1)]), (a + 1, memR s.m l (a + 3) (a + 4)), (l, logD s.m), (a + 3, wordsD s.m), (a + 4, mtxD s.m)]
theorem runOk_zero {n : Nat} (h : 1 ≤ n ∧ n ≤ 12) (l : List OpS) : RunOk n l ⟨0, heldN n 4, []⟩ := by
  obtain ⟨b, a, v⟩ := heldN_ok h (i := 4) (by omega)
  exact ⟨Nat.zero_le _, b, fun i hi => by rw [a i hi, if_pos hi], v⟩
theorem RunOk.next {n : Nat} {l : List OpS} {x : Run} (h : RunOk n l x) {o : OpS} {r : Int} {t : Sto} {T : List Item} (hi : x.i < l.length) (hs : StepR n o x.s (4 * x.i) r t T) : RunOk n l ⟨x.i + 1, t, T⟩ :=
  ⟨hi, hs.ok, hs.held, by show t.m.viol = 0; rw [hs.viol]; exact h.viol⟩
def capN (c : Int) : Nat := (c.tmod 12 + 1).toNat
theorem capN_ok {c : Int} (h : 0 ≤ c) : c.tmod 12 + 1 = (capN c : Int) ∧ 1 ≤ capN c ∧ capN c ≤ 12 := by
  have h1 := Int.tmod_nonneg (b := 12) h
  have h2 := (tmod_bounds c 12 (by omega)).2
  unfold capN
  omega
end Go.Proofs.YtajgcanfngcfhaaGreat.Abs
