/- Insertions: a call that runs alone, plainly; the fixed example; the law beside the reference. -/
import Derived.Test.YtcffiehcdadimaaGreatM22
import Derived.Test.YtcffiehcdadimaaGreatHB
namespace Go.Proofs.YtcffiehcdadimaaGreat.Abs
open Go.Proofs
set_option maxRecDepth 10000
set_option linter.unusedSimpArgs false
set_option linter.unusedVariables false
def runI (o : IOp) (s : Sto) : Nat → IOp × Sto
 | 0 => (o, s)
 | k + 1 => (runI o s k).1.step (runI o s k).2
theorem runI_ok {n : Nat} {s : Sto} {S : List Item} {K : Nat} (h : SB n s S (fun _ => False) K) (ht : s.m.Thr) {o : IOp} (ho : IOk n (fun _ => False) o) (hs : o.pc = .start) : ∀ k, K + k ≤ 20000 → (∀ j, j < k → (runI o s j).1.pc ≠ .ret) →
 ∃ S A, SB n (runI o s k).2 S A (K + k) ∧ (runI o s k).2.m.Thr ∧ ((runI o s k).1.pc ≠ .ret → IOk n A (runI o s k).1) ∧ ∀ i, A i ↔ (runI o s k).1.hnd i
 | 0, _, _ => ⟨S, _, h, ht, fun _ => ho, fun i => ⟨fun x => x.elim, fun x => by
  have h1 : o.pc = .leave ∨ o.pc = .put := x.2.1
  rw [hs] at h1
  rcases h1 with h1 | h1 <;> cases h1⟩⟩
 | k + 1, hk, hj => by
  obtain ⟨S1, A1, a1, a2, a3, a4⟩ := runI_ok h ht ho hs k (by omega) fun j hjk => hj j (by omega)
  obtain ⟨S2, A2, b1, b2, b3, b4, _⟩ := IOp.step_ok a1 (by omega) a2 (a3 (hj k (by omega)))
  refine ⟨S2, A2, b1, b2, b3, fun i => ?_⟩
  rw [b4 i, a4 i]
  exact ⟨fun x => x.elim (fun y => absurd y.1 y.2) id, .inr⟩
theorem runI_steps {n : Nat} {s : Sto} {S : List Item} {K : Nat} (h : SB n s S (fun _ => False) K) (ht : s.m.Thr) {o : IOp} (ho : IOk n (fun _ => False) o) (hs : o.pc = .start) {k : Nat} (hk : K + k + 1 ≤ 20000) (hj : ∀ j, j ≤ k → (runI o s j).1.pc ≠ .ret) :
 IStep (runI o s k).1 (runI o s k).2 (runI o s (k + 1)).1.done (runI o s (k + 1)).1 (runI o s (k + 1)).2 := by
 obtain ⟨S1, A1, a1, a2, a3, a4⟩ := runI_ok h ht ho hs k (by omega) fun j hjk => hj j (by omega)
 exact iStepC a1 (by omega) a2 (a3 (hj k (by omega)))
theorem bad_step (s : Sto) : (IOp.new 1 (-1)).step s = (⟨1, -1, .ret, none, 0, 1, false, true, false⟩, s) := by
 unfold IOp.step IOp.new
 dsimp only
 rw [if_pos (.inl (by decide))]
theorem head12C : PSpec Tryz.prog 42 [] (V.bool true) := by
 have hb := sto0_ok (n := 1) ⟨by omega, by omega⟩
 have ht : (sto0 1).m.Thr := fun i hi => by
  by_cases c : i < 4
  · rw [sto0_free 1 i c] at hi; cases hi
  · unfold Mem.held at hi
    rw [List.getElem?_eq_none (by show (List.replicate 4 (false, (0 : Int))).length ≤ i; simp; omega)] at hi
    cases hi
 have ho : IOk 1 (fun _ => False) (IOp.new 1 5) := IOk.new (by omega) 5
 have p7 : ∀ j, j < 7 → (runI (IOp.new 1 5) (sto0 1) j).1.pc ≠ .ret := by decide
 have d7 : ∀ k, k < 7 → (runI (IOp.new 1 5) (sto0 1) (k + 1)).1.done = Nat.beq k 6 := by decide
 have e7 : ∀ k, k ≤ 7 → (runI (IOp.new 1 5) (sto0 1) k).1.eff = Nat.beq k 5 := by decide
 have r7 : (runI (IOp.new 1 5) (sto0 1) 7).1.re = 0 ∧ (runI (IOp.new 1 5) (sto0 1) 7).1.rh = 0 := by decide
 obtain ⟨S1, A1, a1, a2, a3, a4⟩ := runI_ok hb ht ho rfl 7 (by omega) p7
 have hA1 : A1 = fun _ => False := by
  funext i
  refine propext ⟨fun x => ?_, fun x => x.elim⟩
  have h1 := ((a4 i).1 x).2.1
  rcases h1 with h1 | h1 <;> exact absurd h1 (by decide)
 subst hA1
 have ho2 : IOk 1 (fun _ => False) (IOp.new 2 3) := IOk.new (by omega) 3
 have q7 : ∀ j, j < 7 → (runI (IOp.new 2 3) (runI (IOp.new 1 5) (sto0 1) 7).2 j).1.pc ≠ .ret := by decide
 have dq : ∀ k, k < 7 → (runI (IOp.new 2 3) (runI (IOp.new 1 5) (sto0 1) 7).2 (k + 1)).1.done = decide (k + 1 = 7) := by decide
 have rq : (runI (IOp.new 2 3) (runI (IOp.new 1 5) (sto0 1) 7).2 7).1.re = 10 := by decide
 have vq : (runI (IOp.new 2 3) (runI (IOp.new 1 5) (sto0 1) 7).2 7).2.m.viol = 0 := by decide
 have lq : liveN (runI (IOp.new 2 3) (runI (IOp.new 1 5) (sto0 1) 7).2 7).2.pics = 1 := by decide
 have xq : (runI (IOp.new 2 3) (runI (IOp.new 1 5) (sto0 1) 7).2 7).1.pc = .ret := by decide
 obtain ⟨S2, A2, b1, b2, b3, b4⟩ := runI_ok a1 a2 ho2 rfl 7 (by omega) q7
 have hA2 : A2 = fun _ => False := by
  funext i
  refine propext ⟨fun x => ?_, fun x => x.elim⟩
  have h1 := ((b4 i).1 x).2.1
  rw [xq] at h1
  rcases h1 with h1 | h1 <;> cases h1
 subst hA2
 have hlen : S2.length = 1 := by rw [b1.toSOk.items_len, lq]
 have hbad := iStepC b1 (by omega) b2 (IOk.new (n := 1) (A := fun _ => False) (th := 1) (by omega) (-1))
 have hbd := bad_step (runI (IOp.new 2 3) (runI (IOp.new 1 5) (sto0 1) 7).2 7).2
 rw [hbd] at hbad
 exact head12_aux (sto0 1) (newStoC 1 (by omega)) (fun k => (runI (IOp.new 1 5) (sto0 1) k).1) (fun k => (runI (IOp.new 1 5) (sto0 1) k).2) rfl rfl
  (fun k hk => by rw [← d7 k hk]; exact runI_steps hb ht ho rfl (by omega) fun j hj => p7 j (by omega)) e7 r7
  (fun k => (runI (IOp.new 2 3) (runI (IOp.new 1 5) (sto0 1) 7).2 k).1) (fun k => (runI (IOp.new 2 3) (runI (IOp.new 1 5) (sto0 1) 7).2 k).2) rfl rfl
  (fun k hk => by rw [← dq k hk]; exact runI_steps a1 a2 ho2 rfl (by omega) fun j hj => q7 j (by omega)) rq
  _ hbad rfl rfl S2 b1.shown.items hlen vq
theorem insertopMatches (c : Int) (hc : 0 ≤ c ∧ c ≤ 255) (l : List OpS) (hl : ∀ o ∈ l, o.Ok) (times picks : List Int) (hpk : ∀ y ∈ picks, 0 ≤ y ∧ y ≤ 255) :
 PSpec Tryz.prog 10 [.c (.int .u8 c), opsSV l, intsV times, u8sV picks] (V.bool true) := by
 obtain ⟨_, hn⟩ := capN_ok hc.1
 have hsz := sizeC c hc
 have hp := preparedC hn l hl
 have hr := prep_ready hn hl
 generalize prepS (capN c) l = s at *
 generalize (runF (capN c) l (min l.length 60)).2 = S at *
 generalize capN c = n at *
 have hthr : s.m.Thr := thr_of hr.ok.nm fun i hi h => by rw [hr.free i hi] at h; cases h
 have h0 : MIOk n picks.length times.length ⟨0, 0, s, fun _ => none, 0⟩ := ⟨Nat.zero_le _, Nat.zero_le _, by show 0 < 4; omega, S, _, hr.ok, hthr, fun j o _ h => (by cases h), fun i h => h.elim, fun j j' o o' i _ _ h => (by cases h)⟩
 refine (mi_def c l times picks hpk hn s hsz head12C hp h0).2 fun y hL hH hy => ?_
 by_cases u : y.i < picks.length
 case neg => exact mi_exit c l times picks hpk hn s hsz head12C hp h0 hL hH hy u
 obtain ⟨p, hpp⟩ := get_lt u
 obtain ⟨pb1, pb2⟩ := hpk p (List.mem_of_getElem? hpp)
 have h1 := Int.tmod_nonneg (b := 4) pb1
 have h2 := (tmod_bounds p 4 (by omega)).2
 have ht : p.tmod 4 = ((p.tmod 4).toNat : Int) := by omega
 cases ho : y.cs (p.tmod 4).toNat with
 | none => exact mi_none c l times picks hpk hn s hsz head12C hp h0 hL hH hy u hpp pb1 pb2 ht (by omega) ho
 | some o => exact mi_some c l times picks hpk hn s hsz head12C hp h0 hL hH hy u hpp pb1 pb2 ht (by omega) ho
end Go.Proofs.YtcffiehcdadimaaGreat.Abs
