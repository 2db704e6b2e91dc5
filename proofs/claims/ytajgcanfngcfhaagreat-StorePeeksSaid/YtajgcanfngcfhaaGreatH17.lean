/- The fixed examples of law11, reckoned. -/
import Derived.Test.YtajgcanfngcfhaaGreatH16
namespace Go.Proofs.YtajgcanfngcfhaaGreat.Abs
open Go.Proofs
set_option maxRecDepth 10000
set_option linter.unusedSimpArgs false
set_option linter.unusedVariables false
def x0 : Sto := heldN 2 4
def x1 : Sto := x0.alloc1 0 5 [1] 0
def x2 : Sto := x1.put 0 0
def x3 : Sto := x2.take 0 (fillG x2.q)
def x4 : Sto := x3.alloc1 0 3 [] 1
def x5 : Sto := x4.put 0 1
def x6 : Sto := x5.take 0 (fillG x5.q)
def x7 : Sto := x6.take 0 (popG x6.q).1
def x8 : Sto := x7.free1 0 1
theorem x0_all : x0.all4 0 := fun i hi => by
  have := (heldN_ok (n := 2) (by omega) (i := 4) (by omega)).2.1 i hi
  rw [if_pos hi] at this; exact this
theorem xf1 : x0.idle = [1] ++ [((0 : Nat) : Int)] ∧ x0.gn 0 = 0 ∧ x1.item 0 = ⟨5, 0, 0⟩ := by decide +kernel
theorem xf2 : x3.m.word 0 = 6 ∧ x3.idle = [] ++ [((1 : Nat) : Int)] ∧ x3.gn 1 = 0 ∧ x4.item 1 = ⟨3, 1, 1⟩ ∧ x4.idle = [] := by decide +kernel
theorem xf3 : x8.pics = [⟨0, 1, 5, 0⟩, ⟨1, 0, 0, 0⟩] ∧ x8.slots.length = 2 ∧ accQ x8.q 5 = false ∧ (x8.touch 1 [1]).m.viol = x8.m.viol + 1 := by decide +kernel
theorem head11C : PSpec Tryz.prog 17 [] (V.bool true) := by
  obtain ⟨b0, _, v0⟩ := heldN_ok (n := 2) (by omega) (i := 4) (by omega)
  have b0 : SB 2 x0 [] (fun _ => False) 0 := b0
  have v0 : x0.m.viol = 0 := v0
  obtain ⟨f1, f2, f3⟩ := xf1
  obtain ⟨g1, g2, g3, g4, g5⟩ := xf2
  obtain ⟨h1, h2, h3, h4⟩ := xf3
  obtain ⟨b1, k1, a1⟩ := b0.allocH (by omega) x0_all 5 (by omega) f1 (by omega)
  have b1 : SB 2 x1 [] (fun j => False ∨ j = 0) (0 + 1) := b1
  have k1 : x1.all4 0 := k1
  have v1 : x1.m.viol = x0.m.viol := rfl
  obtain ⟨b2, k2, v2, a2⟩ := b1.putH (by omega) k1 (i := 0) (.inr rfl)
  rw [f3] at b2
  rw [f2] at a1
  have b2 : SB 2 x2 [⟨5, 0, 0⟩] (fun j => (False ∨ j = 0) ∧ j ≠ 0) (0 + 1 + 1) := b2
  obtain ⟨b3, k3, v3, a3⟩ := b2.peekH (by omega) k2
  have b3 : SB 2 x3 [⟨5, 0, 0⟩] (fun j => (False ∨ j = 0) ∧ j ≠ 0) (0 + 1 + 1 + 1) := b3
  have a4 := wordAtC x3.m 0 (by rw [b3.nw]; omega) b3.fits.mem
  rw [g1] at a4
  obtain ⟨b4, k4, a5⟩ := b3.allocH (by omega) k3 3 (by omega) g2 (by omega)
  rw [g3] at a5
  have b4 : SB 2 x4 [⟨5, 0, 0⟩] (fun j => ((False ∨ j = 0) ∧ j ≠ 0) ∨ j = 1) (0 + 1 + 1 + 1 + 1) := b4
  have k4 : x4.all4 0 := k4
  have v4 : x4.m.viol = x3.m.viol := rfl
  have a6 := allocNo x4 0 9 g5 b4.fits (by rw [b4.nm]; exact Nat.le_refl _)
  rw [Sto.touch_id (th := 0) (l := [3]) (fun j hj => k4 j (by simp at hj; omega))] at a6
  obtain ⟨b5, k5, v5, a7⟩ := b4.putH (by omega) k4 (i := 1) (.inr rfl)
  rw [g4] at b5
  have b5 : SB 2 x5 [⟨3, 1, 1⟩, ⟨5, 0, 0⟩] (fun j => (((False ∨ j = 0) ∧ j ≠ 0) ∨ j = 1) ∧ j ≠ 1) (0 + 1 + 1 + 1 + 1 + 1) := b5
  obtain ⟨b6, k6, v6, a8⟩ := b5.peekH (by omega) k5
  have b6 : SB 2 x6 [⟨3, 1, 1⟩, ⟨5, 0, 0⟩] (fun j => (((False ∨ j = 0) ∧ j ≠ 0) ∨ j = 1) ∧ j ≠ 1) (0 + 1 + 1 + 1 + 1 + 1 + 1) := b6
  obtain ⟨i, hi, hxi, b7, k7, v7, a9⟩ := b6.dropH (by omega) k6
  have ei : i = 1 := by
    have := congrArg Item.slot hxi
    have e : (1 : Int) = (i : Int) := this
    omega
  subst ei
  have b7 : SB 2 x7 [⟨5, 0, 0⟩] (fun j => ((((False ∨ j = 0) ∧ j ≠ 0) ∨ j = 1) ∧ j ≠ 1) ∨ j = 1) (0 + 1 + 1 + 1 + 1 + 1 + 1 + 1) := b7
  obtain ⟨b8, k8, a10⟩ := b7.freeH (by omega) k7 (i := 1) (.inr rfl)
  have b8 : SB 2 x8 [⟨5, 0, 0⟩] _ _ := b8
  have v8 : x8.m.viol = x7.m.viol := rfl
  have v9 : x8.m.viol = 0 := by rw [v8]; show (x6.take 0 (popG x6.q).1).m.viol = 0; rw [v7]; show (x5.take 0 (fillG x5.q)).m.viol = 0; rw [v6]; show (x4.put 0 1).m.viol = 0; rw [v5, v4]; show (x2.take 0 (fillG x2.q)).m.viol = 0; rw [v3]; show (x1.put 0 0).m.viol = 0; rw [v2, v1, v0]
  obtain ⟨r1, r2⟩ := b8.rungs
  have a13 := acceptsC x8 1 5 b8.fits (by rw [b8.nm]; exact Nat.le_refl _) r1 r2
  have e13 : (x8.accepts 1 5) = (x8.touch 1 [1], false) := by unfold Sto.accepts; rw [h3]
  rw [e13] at a13
  have a11 := arenaH b8
  have a12 := itemsH b8
  have hc := heldC 2 (by omega)
  exact head11_aux x0 x1 x2 x3 x4 x5 x6 x7 x8 [⟨5, 0, 0⟩] x8.pics hc a1 a2 a3 a4 a5 a6 a7 a8 a9 a10 a11 a12 rfl a13 (by rw [h1]; rfl) ⟨0, 1, 5, 0⟩ ⟨1, 0, 0, 0⟩ (by rw [h1]; rfl) (by rw [h1]; rfl) rfl rfl v9 h2 (by rw [h4, v9]; rfl)
end Go.Proofs.YtajgcanfngcfhaaGreat.Abs
