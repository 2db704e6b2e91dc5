/- The fixed examples of the laws. -/
import Derived.Test.YtmihhkcbbdpnaaaF13
namespace Go.Proofs.Ytmihhkcbbdpnaaa.Abs
open Go.Proofs
set_option maxRecDepth 10000
set_option linter.unusedSimpArgs false
set_option linter.unusedVariables false

theorem doV {m m' : Mod} {c : Cal} {h : Int} {r : Res} (hm : m.Ok) (hi : m.iss.length < 1000000) (e : doM m c h = (m', r)) : PSpec Try.prog 25 [m.v, c.v, V.int h] (.tup [m'.v, r.v]) := by
  have := doMC m c h (hm.fits hi) (hm.ins c h).mono
  rw [e] at this; exact this
theorem doOk {m m' : Mod} {c : Cal} {h : Int} {r : Res} (hm : m.Ok) (e : doM m c h = (m', r)) : m'.Ok := by
  have := doM_ok hm c h
  rw [e] at this; exact this
def hm0 : Mod := ⟨2, [], 0, []⟩
def hm1 : Mod := ⟨2, [⟨5, 0, 7, false⟩], 1, [7]⟩
def hm2 : Mod := ⟨2, [⟨5, 0, 7, false⟩, ⟨5, 1, 8, false⟩], 2, [7, 8]⟩
def hm3 : Mod := ⟨2, [⟨5, 0, 7, true⟩, ⟨5, 1, 8, false⟩], 2, [7, 8]⟩
def hm4 : Mod := ⟨2, [], 2, [7, 8]⟩
def hm5 : Mod := ⟨2, [⟨5, 1, 8, false⟩], 2, [7, 8]⟩
theorem he1 : doM hm0 ⟨1, 5, 0, 0, 0⟩ 7 = (hm1, ⟨0, 7, false, []⟩) := by decide
theorem he2 : doM hm1 ⟨1, 5, 0, 0, 0⟩ 8 = (hm2, ⟨0, 8, false, []⟩) := by decide
theorem he3 : doM hm2 ⟨1, 5, 0, 0, 0⟩ 9 = (hm2, ⟨10, 0, false, []⟩) := by decide
theorem he4 : doM hm2 ⟨2, 0, 7, 0, 0⟩ 0 = (hm3, ⟨0, 0, true, []⟩) := by decide
theorem he5 : doM hm3 ⟨2, 0, 7, 0, 0⟩ 0 = (hm3, ⟨0, 0, false, []⟩) := by decide
theorem he6 : doM hm3 ⟨3, 0, 0, 1, 6⟩ 0 = (hm4, ⟨0, 0, false, [⟨5, 8⟩]⟩) := by decide
theorem he7 : doM hm2 ⟨3, 0, 0, 9, 5⟩ 0 = (hm2, ⟨0, 0, false, []⟩) := by decide
theorem he8 : accM hm2 ⟨3, 0, 0, 1, 6⟩ ⟨0, 0, false, [⟨5, 7⟩]⟩ = (hm5, true) := by decide
theorem ok0 : hm0.Ok := newM_ok (c := 2) (by omega)
theorem ok1 : hm1.Ok := doOk ok0 he1
theorem ok2 : hm2.Ok := doOk ok1 he2
theorem ok3 : hm3.Ok := doOk ok2 he4
theorem newV2 : PSpec Try.prog 29 [V.int 2] (.tup [hm0.v, V.int 0]) := newC 2
theorem newV0 : PSpec Try.prog 29 [V.int 0] (.tup [(Mod.mk 0 [] 0 []).v, V.int 1]) := newC 0
theorem accV : PSpec Try.prog 27 [hm2.v, (Cal.mk 3 0 0 1 6).v, (Res.mk 0 0 false [⟨5, 7⟩]).v] (.tup [hm5.v, V.bool true]) := by
  have := acceptsC hm2 ⟨3, 0, 0, 1, 6⟩ ⟨0, 0, false, [⟨5, 7⟩]⟩ (ok2.fits (by decide)) (ok2.ins _ _).mono (by have := doM_evs (m := hm2) ⟨3, 0, 0, 1, 6⟩ (Res.mk 0 0 false [⟨5, 7⟩]).handle; have : hm2.ents.length = 2 := rfl; omega)
  rw [he8] at this; exact this
theorem validV3 : PSpec Try.prog 22 [hm3.v] (V.bool true) := by
  have := validC hm3 (by decide) (by decide)
  rw [okM_yes ok3] at this; exact this
theorem validV0 : PSpec Try.prog 22 [(Mod.mk 0 [] 0 []).v] (V.bool false) := by
  have := validC ⟨0, [], 0, []⟩ (by decide) (by decide)
  rw [okM_no fun h => by have := h.c0; simp at this] at this; exact this
set_option maxHeartbeats 1000000 in
theorem headC10 : PSpec Try.prog 20 [] (V.bool true) := by
  refine pspec tab_ok mix Try.func20 (by kernel_rfl) rfl rfl ?_
  ((conv => whnf); (repeat (first | ((first | refine z1 ?_ | refine z2 ?_ | refine z3 ?_ | refine idxB_at (by decide) rfl ?_ | refine atB_at (by decide) (by decide) ?_ | refine getB_lit _ rfl ?_ | refine z7 ?_); conv => whnf) | trivial)))
  refine callB newV2 ?_
  ((conv => whnf); (repeat (first | ((first | refine z1 ?_ | refine z2 ?_ | refine z3 ?_ | refine idxB_at (by decide) rfl ?_ | refine atB_at (by decide) (by decide) ?_ | refine getB_lit _ rfl ?_ | refine z7 ?_); conv => whnf) | trivial)))
  refine callB newV0 ?_
  ((conv => whnf); (repeat (first | ((first | refine z1 ?_ | refine z2 ?_ | refine z3 ?_ | refine idxB_at (by decide) rfl ?_ | refine atB_at (by decide) (by decide) ?_ | refine getB_lit _ rfl ?_ | refine z7 ?_); conv => whnf) | trivial)))
  refine callB (doV ok0 (by decide) he1) ?_
  ((conv => whnf); (repeat (first | ((first | refine z1 ?_ | refine z2 ?_ | refine z3 ?_ | refine idxB_at (by decide) rfl ?_ | refine atB_at (by decide) (by decide) ?_ | refine getB_lit _ rfl ?_ | refine z7 ?_); conv => whnf) | trivial)))
  refine callB (doV ok1 (by decide) he2) ?_
  ((conv => whnf); (repeat (first | ((first | refine z1 ?_ | refine z2 ?_ | refine z3 ?_ | refine idxB_at (by decide) rfl ?_ | refine atB_at (by decide) (by decide) ?_ | refine getB_lit _ rfl ?_ | refine z7 ?_); conv => whnf) | trivial)))
  refine callB (doV ok2 (by decide) he3) ?_
  ((conv => whnf); (repeat (first | ((first | refine z1 ?_ | refine z2 ?_ | refine z3 ?_ | refine idxB_at (by decide) rfl ?_ | refine atB_at (by decide) (by decide) ?_ | refine getB_lit _ rfl ?_ | refine z7 ?_); conv => whnf) | trivial)))
  refine callB (doV ok2 (by decide) he4) ?_
  ((conv => whnf); (repeat (first | ((first | refine z1 ?_ | refine z2 ?_ | refine z3 ?_ | refine idxB_at (by decide) rfl ?_ | refine atB_at (by decide) (by decide) ?_ | refine getB_lit _ rfl ?_ | refine z7 ?_); conv => whnf) | trivial)))
  refine callB (doV ok3 (by decide) he5) ?_
  ((conv => whnf); (repeat (first | ((first | refine z1 ?_ | refine z2 ?_ | refine z3 ?_ | refine idxB_at (by decide) rfl ?_ | refine atB_at (by decide) (by decide) ?_ | refine getB_lit _ rfl ?_ | refine z7 ?_); conv => whnf) | trivial)))
  refine callB (doV ok3 (by decide) he6) ?_
  ((conv => whnf); (repeat (first | ((first | refine z1 ?_ | refine z2 ?_ | refine z3 ?_ | refine idxB_at (by decide) rfl ?_ | refine atB_at (by decide) (by decide) ?_ | refine getB_lit _ rfl ?_ | refine z7 ?_); conv => whnf) | trivial)))
  refine callB (doV ok2 (by decide) he7) ?_
  ((conv => whnf); (repeat (first | ((first | refine z1 ?_ | refine z2 ?_ | refine z3 ?_ | refine idxB_at (by decide) rfl ?_ | refine atB_at (by decide) (by decide) ?_ | refine getB_lit _ rfl ?_ | refine z7 ?_); conv => whnf) | trivial)))
  refine callC accV ?_
  ((conv => whnf); (repeat (first | ((first | refine z1 ?_ | refine z2 ?_ | refine z3 ?_ | refine idxB_at (by decide) rfl ?_ | refine atB_at (by decide) (by decide) ?_ | refine getB_lit _ rfl ?_ | refine z7 ?_); conv => whnf) | trivial)))
  refine callC (equalC ⟨0, 0, false, [⟨5, 8⟩]⟩ ⟨0, 0, false, [⟨5, 8⟩]⟩ (by decide)) ?_
  ((conv => whnf); (repeat (first | ((first | refine z1 ?_ | refine z2 ?_ | refine z3 ?_ | refine idxB_at (by decide) rfl ?_ | refine atB_at (by decide) (by decide) ?_ | refine getB_lit _ rfl ?_ | refine z7 ?_); conv => whnf) | trivial)))
  refine callB validV3 ?_
  ((conv => whnf); (repeat (first | ((first | refine z1 ?_ | refine z2 ?_ | refine z3 ?_ | refine idxB_at (by decide) rfl ?_ | refine atB_at (by decide) (by decide) ?_ | refine getB_lit _ rfl ?_ | refine z7 ?_); conv => whnf) | trivial)))
  refine callC validV0 ?_
  ((conv => whnf); (repeat (first | ((first | refine z1 ?_ | refine z2 ?_ | refine z3 ?_ | refine idxB_at (by decide) rfl ?_ | refine atB_at (by decide) (by decide) ?_ | refine getB_lit _ rfl ?_ | refine z7 ?_); conv => whnf) | trivial)))
  exact .same rfl
end Go.Proofs.Ytmihhkcbbdpnaaa.Abs
