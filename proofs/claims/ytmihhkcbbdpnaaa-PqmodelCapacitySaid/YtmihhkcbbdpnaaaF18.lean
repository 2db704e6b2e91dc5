/- The law of what is accepted. -/
import Derived.Test.YtmihhkcbbdpnaaaF17
namespace Go.Proofs.Ytmihhkcbbdpnaaa.Abs
open Go.Proofs
set_option maxRecDepth 10000
set_option linter.unusedSimpArgs false
set_option linter.unusedVariables false

theorem acceptsL (m : Mod) (c : Cal) (r : Res) (hf : m.Fits) (hm : MonoE m.ents ⟨c.time, m.next, r.handle, false⟩) (hl : (doM m c r.handle).2.evs.length < 9223372036854775807) : LSpec Try.prog 27 [m.v, c.v, r.v] [] 0 (.tup [(accM m c r).1.v, V.bool (accM m c r).2]) [] 0 := by
  refine lspec tab_ok mix Try.func27 (by kernel_rfl) (by rfl) (by rfl) (by rfl) (by rfl) ?_
  ((conv => whnf); (repeat (first | ((first | refine z1 ?_ | refine z2 ?_ | refine z3 ?_ | refine idxB_at (by decide) rfl ?_ | refine atB_at (by decide) (by decide) ?_ | refine getB_lit _ rfl ?_ | refine z7 ?_); conv => whnf) | trivial)))
  refine callB (doMC m c r.handle hf hm) ?_
  ((conv => whnf); (repeat (first | ((first | refine z1 ?_ | refine z2 ?_ | refine z3 ?_ | refine idxB_at (by decide) rfl ?_ | refine atB_at (by decide) (by decide) ?_ | refine getB_lit _ rfl ?_ | refine z7 ?_); conv => whnf) | trivial)))
  refine callB (equalC _ r hl) ?_
  ((conv => whnf); (repeat (first | ((first | refine z1 ?_ | refine z2 ?_ | refine z3 ?_ | refine idxB_at (by decide) rfl ?_ | refine atB_at (by decide) (by decide) ?_ | refine getB_lit _ rfl ?_ | refine z7 ?_); conv => whnf) | trivial)))
  refine br_dec (fun g => ?_) (fun g => ?_) <;> ((conv => whnf); (repeat (first | ((first | refine z1 ?_ | refine z2 ?_ | refine z3 ?_ | refine idxB_at (by decide) rfl ?_ | refine atB_at (by decide) (by decide) ?_ | refine getB_lit _ rfl ?_ | refine z7 ?_); conv => whnf) | trivial)))
  · refine .mk [] ?_
    rw [accM, if_pos g]
    ((conv => whnf); (repeat (first | ((first | refine z1 ?_ | refine z2 ?_ | refine z3 ?_ | refine idxB_at (by decide) rfl ?_ | refine atB_at (by decide) (by decide) ?_ | refine getB_lit _ rfl ?_ | refine z7 ?_); conv => whnf) | trivial)))
  · refine .mk [] ?_
    rw [accM, if_neg g]
    ((conv => whnf); (repeat (first | ((first | refine z1 ?_ | refine z2 ?_ | refine z3 ?_ | refine idxB_at (by decide) rfl ?_ | refine atB_at (by decide) (by decide) ?_ | refine getB_lit _ rfl ?_ | refine z7 ?_); conv => whnf) | trivial)))
/-- a call's answer asked for again: the handle that it names leads to the same -/
theorem doM_again (m : Mod) (c : Cal) (h : Int) (hk : ¬ (c.kind = 1 ∧ (doM m c h).2.err ≠ 0)) : doM m c (doM m c h).2.handle = doM m c h := by
  by_cases k1 : c.kind = 1
  · have he : (doM m c h).2.err = 0 := by
      apply Classical.byContradiction
      exact fun e => hk ⟨k1, e⟩
    have hd : ∀ x, doM m c x = insertM m c x := fun x => by rw [doM, if_pos k1]
    have hh : (insertM m c h).2.handle = h := by
      rw [hd] at he
      revert he
      unfold insertM
      repeat' split
      all_goals simp [Res.er]
    rw [hd, hd, hh]
  · have hd : ∀ x y, doM m c x = doM m c y := fun x y => by simp only [doM, if_neg k1]
    exact hd _ _
set_option maxHeartbeats 400000 in
theorem pqAccepts (k : Int) (l : List Stp) (s : Stp) (x : Evt) (hk : 0 ≤ k ∧ k ≤ 255) : PSpec Try.prog 8 [.c (.int .u8 k), stpsV l, s.v, x.v] (V.bool true) := by
  have hm := madeM_ok hk l
  have hi := madeM_iss k l
  have hf := hm.fits (by omega)
  refine pspec tab_ok mix Try.func8 (by kernel_rfl) rfl rfl ?_
  ((conv => whnf); (repeat (first | ((first | refine z1 ?_ | refine z2 ?_ | refine z3 ?_ | refine idxB_at (by decide) rfl ?_ | refine atB_at (by decide) (by decide) ?_ | refine getB_lit _ rfl ?_ | refine z7 ?_); conv => whnf) | trivial)))
  refine callB headC10 ?_
  ((conv => whnf); (repeat (first | ((first | refine z1 ?_ | refine z2 ?_ | refine z3 ?_ | refine idxB_at (by decide) rfl ?_ | refine atB_at (by decide) (by decide) ?_ | refine getB_lit _ rfl ?_ | refine z7 ?_); conv => whnf) | trivial)))
  refine callB (madeC k l hk) ?_
  ((conv => whnf); (repeat (first | ((first | refine z1 ?_ | refine z2 ?_ | refine z3 ?_ | refine idxB_at (by decide) rfl ?_ | refine atB_at (by decide) (by decide) ?_ | refine getB_lit _ rfl ?_ | refine z7 ?_); conv => whnf) | trivial)))
  generalize madeM k l = m at *
  have hev : ∀ h, (doM m s.call h).2.evs.length < 9223372036854775807 := fun h => by
    have := doM_evs (m := m) s.call h
    have := hf.ents
    omega
  have hf2 := (doM_ok hm s.call s.handle).fits (by have := doM_iss m s.call s.handle; omega)
  refine callB (doMC m s.call s.handle hf (hm.ins _ _).mono) ?_
  ((conv => whnf); (repeat (first | ((first | refine z1 ?_ | refine z2 ?_ | refine z3 ?_ | refine idxB_at (by decide) rfl ?_ | refine atB_at (by decide) (by decide) ?_ | refine getB_lit _ rfl ?_ | refine z7 ?_); conv => whnf) | trivial)))
  refine callB (acceptsC m s.call (doM m s.call s.handle).2 hf (hm.ins _ _).mono (hev _)) ?_
  ((conv => whnf); (repeat (first | ((first | refine z1 ?_ | refine z2 ?_ | refine z3 ?_ | refine idxB_at (by decide) rfl ?_ | refine atB_at (by decide) (by decide) ?_ | refine getB_lit _ rfl ?_); conv => whnf) | trivial)))
  refine joinB tab_ok mix [6, 7, 9, 10, 11, 12, 13, 14] [0, 64, 512, 1216, 1280, 1984] (fun z : Bool => [(53, V.bool z)]) (fun _ => []) (fun z => z = false → ¬ (s.call.kind = 1 ∧ (doM m s.call s.handle).2.err ≠ 0)) ?_ ?_
  · ((conv => whnf); (repeat (first | ((first | refine z1 ?_ | refine z2 ?_ | refine z3 ?_ | refine idxB_at (by decide) rfl ?_ | refine atB_at (by decide) (by decide) ?_ | refine getB_lit _ rfl ?_ | refine z7 ?_); conv => whnf) | trivial)))
    refine br_dec (fun g => ?_) (fun g => ?_) <;> ((conv => whnf); (repeat (first | ((first | refine z1 ?_ | refine z2 ?_ | refine z3 ?_ | refine idxB_at (by decide) rfl ?_ | refine atB_at (by decide) (by decide) ?_ | refine getB_lit _ rfl ?_ | refine z7 ?_); conv => whnf) | trivial)))
    · refine .mk [] (!decide ((doM m s.call s.handle).2.err = 0)) (by simp; exact fun h _ => h) ?_
      ((conv => whnf); (repeat (first | ((first | refine z1 ?_ | refine z2 ?_ | refine z3 ?_ | refine idxB_at (by decide) rfl ?_ | refine atB_at (by decide) (by decide) ?_ | refine getB_lit _ rfl ?_ | refine z7 ?_); conv => whnf) | trivial)))
    · refine .mk [] false (fun _ h => g h.1) ?_
      ((conv => whnf); (repeat (first | ((first | refine z1 ?_ | refine z2 ?_ | refine z3 ?_ | refine idxB_at (by decide) rfl ?_ | refine atB_at (by decide) (by decide) ?_ | refine getB_lit _ rfl ?_ | refine z7 ?_); conv => whnf) | trivial)))
  rintro z hz
  ((conv => whnf); (repeat (first | ((first | refine z1 ?_ | refine z2 ?_ | refine z3 ?_ | refine idxB_at (by decide) rfl ?_ | refine atB_at (by decide) (by decide) ?_ | refine getB_lit _ rfl ?_ | refine z7 ?_); conv => whnf) | trivial)))
  refine brK_mk (fun e => ?_) (fun e => ?_) <;> ((conv => whnf); (repeat (first | ((first | refine z1 ?_ | refine z2 ?_ | refine z3 ?_ | refine idxB_at (by decide) rfl ?_ | refine atB_at (by decide) (by decide) ?_ | refine getB_lit _ rfl ?_ | refine z7 ?_); conv => whnf) | trivial)))
  · exact .same rfl
  have hag := doM_again m s.call s.handle (hz e)
  have hev2 := doM_evs (m := m) s.call s.handle
  generalize doM m s.call s.handle = d at *
  obtain ⟨n, ⟨re, rh, rc, rv⟩⟩ := d
  dsimp only at *
  have hacc : ∀ r' : Res, r'.handle = rh → accM m s.call r' = if (⟨re, rh, rc, rv⟩ : Res) = r' then (n, true) else (m, false) := fun r' h => by
    unfold accM; rw [h, hag]
  have h1 := hacc ⟨re, rh, rc, rv⟩ rfl
  rw [if_pos rfl] at h1
  rw [h1]
  have hrv : rv.length < 1000000 := by have := hf.ents; omega
  have h2 : ∀ b, accM m s.call ⟨re, rh, b, rv ++ [x]⟩ = (m, false) := fun b => by rw [hacc _ rfl, if_neg (by simp)]
  have h3 : ∀ b, b ≠ rc → accM m s.call ⟨re, rh, b, rv⟩ = (m, false) := fun b hb => by rw [hacc _ rfl, if_neg (by simp; exact fun e => hb e.symm)]
  have h4 : ∀ b, rv ≠ [] → accM m s.call ⟨re, rh, b, rv.drop 1⟩ = (m, false) := fun b hb => by
    rw [hacc _ rfl, if_neg]
    intro e
    have := congrArg (fun r : Res => r.evs.length) e
    have h0 := List.length_pos_iff.2 hb
    simp only [List.length_drop] at this
    omega
  cases rc
  · ((conv => whnf); (repeat (first | ((first | refine z1 ?_ | refine z2 ?_ | refine z3 ?_ | refine idxB_at (by decide) rfl ?_ | refine atB_at (by decide) (by decide) ?_ | refine getB_lit _ rfl ?_ | refine z7 ?_); conv => whnf) | trivial)))
    refine callB (refSameC n n hf2) ?_
    ((conv => whnf); (repeat (first | ((first | refine z1 ?_ | refine z2 ?_ | refine z3 ?_ | refine idxB_at (by decide) rfl ?_ | refine atB_at (by decide) (by decide) ?_ | refine getB_lit _ rfl ?_ | refine z7 ?_); conv => whnf) | trivial)))
    refine br_dec (fun _ => ?_) (fun g => absurd rfl g)
    ((conv => whnf); (repeat (first | ((first | refine z1 ?_ | refine z2 ?_ | refine z3 ?_ | refine idxB_at (by decide) rfl ?_ | refine atB_at (by decide) (by decide) ?_ | refine getB_lit _ rfl ?_ | refine z7 ?_); conv => whnf) | trivial)))
    refine callL (acceptsL m s.call ⟨re, rh, false, rv ++ [x]⟩ hf (hm.ins _ _).mono (hev _)) [] [3264] rfl ?_
    rw [h2]
    ((conv => whnf); (repeat (first | ((first | refine z1 ?_ | refine z2 ?_ | refine z3 ?_ | refine idxB_at (by decide) rfl ?_ | refine atB_at (by decide) (by decide) ?_ | refine getB_lit _ rfl ?_ | refine z7 ?_); conv => whnf) | trivial)))
    refine cb ⟨by simp, by simp [Evt.row]⟩ ?_
    ((conv => whnf); (repeat (first | ((first | refine z1 ?_ | refine z2 ?_ | refine z3 ?_ | refine idxB_at (by decide) rfl ?_ | refine atB_at (by decide) (by decide) ?_ | refine getB_lit _ rfl ?_ | refine z7 ?_); conv => whnf) | trivial)))
    refine callB (acceptsC m s.call ⟨re, rh, true, rv⟩ hf (hm.ins _ _).mono (hev _)) ?_
    rw [h3 _ (by decide)]
    ((conv => whnf); (repeat (first | ((first | refine z1 ?_ | refine z2 ?_ | refine z3 ?_ | refine idxB_at (by decide) rfl ?_ | refine atB_at (by decide) (by decide) ?_ | refine getB_lit _ rfl ?_ | refine z7 ?_); conv => whnf) | trivial)))
    refine br_dec (fun g => ?_) (fun g => ?_) <;> ((conv => whnf); (repeat (first | ((first | refine z1 ?_ | refine z2 ?_ | refine z3 ?_ | refine idxB_at (by decide) rfl ?_ | refine atB_at (by decide) (by decide) ?_ | refine getB_lit _ rfl ?_ | refine z7 ?_); conv => whnf) | trivial)))
    · exact .same rfl
    have hne : rv ≠ [] := by
      rintro rfl
      exact g rfl
    have hpos := List.length_pos_iff.2 hne
    refine slB 1 rv.length rfl (by simp [isHi]) (by simp; omega) ?_
    ((conv => whnf); (repeat (first | ((first | refine z1 ?_ | refine z2 ?_ | refine z3 ?_ | refine idxB_at (by decide) rfl ?_ | refine atB_at (by decide) (by decide) ?_ | refine getB_lit _ rfl ?_ | refine z7 ?_); conv => whnf) | trivial)))
    refine callC (acceptsC m s.call ⟨re, rh, false, rv.drop 1⟩ hf (hm.ins _ _).mono (hev _)) ?_
    rw [h4 _ hne]
    ((conv => whnf); (repeat (first | ((first | refine z1 ?_ | refine z2 ?_ | refine z3 ?_ | refine idxB_at (by decide) rfl ?_ | refine atB_at (by decide) (by decide) ?_ | refine getB_lit _ rfl ?_ | refine z7 ?_); conv => whnf) | trivial)))
    refine cb (by rw [List.take_of_length_le (by simp)]; simp [List.map_drop]) ?_
    ((conv => whnf); (repeat (first | ((first | refine z1 ?_ | refine z2 ?_ | refine z3 ?_ | refine idxB_at (by decide) rfl ?_ | refine atB_at (by decide) (by decide) ?_ | refine getB_lit _ rfl ?_ | refine z7 ?_); conv => whnf) | trivial)))
    exact .same rfl
  · ((conv => whnf); (repeat (first | ((first | refine z1 ?_ | refine z2 ?_ | refine z3 ?_ | refine idxB_at (by decide) rfl ?_ | refine atB_at (by decide) (by decide) ?_ | refine getB_lit _ rfl ?_ | refine z7 ?_); conv => whnf) | trivial)))
    refine callB (refSameC n n hf2) ?_
    ((conv => whnf); (repeat (first | ((first | refine z1 ?_ | refine z2 ?_ | refine z3 ?_ | refine idxB_at (by decide) rfl ?_ | refine atB_at (by decide) (by decide) ?_ | refine getB_lit _ rfl ?_ | refine z7 ?_); conv => whnf) | trivial)))
    refine br_dec (fun _ => ?_) (fun g => absurd rfl g)
    ((conv => whnf); (repeat (first | ((first | refine z1 ?_ | refine z2 ?_ | refine z3 ?_ | refine idxB_at (by decide) rfl ?_ | refine atB_at (by decide) (by decide) ?_ | refine getB_lit _ rfl ?_ | refine z7 ?_); conv => whnf) | trivial)))
    refine callL (acceptsL m s.call ⟨re, rh, true, rv ++ [x]⟩ hf (hm.ins _ _).mono (hev _)) [] [3264] rfl ?_
    rw [h2]
    ((conv => whnf); (repeat (first | ((first | refine z1 ?_ | refine z2 ?_ | refine z3 ?_ | refine idxB_at (by decide) rfl ?_ | refine atB_at (by decide) (by decide) ?_ | refine getB_lit _ rfl ?_ | refine z7 ?_); conv => whnf) | trivial)))
    refine cb ⟨by simp, by simp [Evt.row]⟩ ?_
    ((conv => whnf); (repeat (first | ((first | refine z1 ?_ | refine z2 ?_ | refine z3 ?_ | refine idxB_at (by decide) rfl ?_ | refine atB_at (by decide) (by decide) ?_ | refine getB_lit _ rfl ?_ | refine z7 ?_); conv => whnf) | trivial)))
    refine callB (acceptsC m s.call ⟨re, rh, false, rv⟩ hf (hm.ins _ _).mono (hev _)) ?_
    rw [h3 _ (by decide)]
    ((conv => whnf); (repeat (first | ((first | refine z1 ?_ | refine z2 ?_ | refine z3 ?_ | refine idxB_at (by decide) rfl ?_ | refine atB_at (by decide) (by decide) ?_ | refine getB_lit _ rfl ?_ | refine z7 ?_); conv => whnf) | trivial)))
    refine br_dec (fun g => ?_) (fun g => ?_) <;> ((conv => whnf); (repeat (first | ((first | refine z1 ?_ | refine z2 ?_ | refine z3 ?_ | refine idxB_at (by decide) rfl ?_ | refine atB_at (by decide) (by decide) ?_ | refine getB_lit _ rfl ?_ | refine z7 ?_); conv => whnf) | trivial)))
    · exact .same rfl
    have hne : rv ≠ [] := by
      rintro rfl
      exact g rfl
    have hpos := List.length_pos_iff.2 hne
    refine slB 1 rv.length rfl (by simp [isHi]) (by simp; omega) ?_
    ((conv => whnf); (repeat (first | ((first | refine z1 ?_ | refine z2 ?_ | refine z3 ?_ | refine idxB_at (by decide) rfl ?_ | refine atB_at (by decide) (by decide) ?_ | refine getB_lit _ rfl ?_ | refine z7 ?_); conv => whnf) | trivial)))
    refine callC (acceptsC m s.call ⟨re, rh, true, rv.drop 1⟩ hf (hm.ins _ _).mono (hev _)) ?_
    rw [h4 _ hne]
    ((conv => whnf); (repeat (first | ((first | refine z1 ?_ | refine z2 ?_ | refine z3 ?_ | refine idxB_at (by decide) rfl ?_ | refine atB_at (by decide) (by decide) ?_ | refine getB_lit _ rfl ?_ | refine z7 ?_); conv => whnf) | trivial)))
    refine cb (by rw [List.take_of_length_le (by simp)]; simp [List.map_drop]) ?_
    ((conv => whnf); (repeat (first | ((first | refine z1 ?_ | refine z2 ?_ | refine z3 ?_ | refine idxB_at (by decide) rfl ?_ | refine atB_at (by decide) (by decide) ?_ | refine getB_lit _ rfl ?_ | refine z7 ?_); conv => whnf) | trivial)))
    exact .same rfl
end Go.Proofs.Ytmihhkcbbdpnaaa.Abs
