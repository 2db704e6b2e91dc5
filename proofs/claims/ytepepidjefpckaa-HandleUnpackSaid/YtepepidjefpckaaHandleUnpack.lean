/-
  THE SHELL OF A PROOF OF 'Rows.HandleUnpackSaid' ('ropeladder/ropeladderlaw04.HandleUnpack'), WRITTEN BY PROGRAM (proof-skeleton.mjs) off the guide's own print for that function. Not trusted: Lean checks it.
  YOURS ARE THE HOLES MARKED 'HOLE' (each bears 'sorry'). ALL ELSE IS THE GUIDE's TEMPLATE (howto/template/XProofs.lean) at this function's number and types: leave it.
-/
import Derived.Test.YtepepidjefpckaaRows
import Derived.WalkKit
import Derived.ProofKit
import Derived.OpenShut
import Derived.Test.YtepepidjefpckaaH
namespace Go.Proofs.Ytepepidjefpckaa.handleUnpack
open Hd
open Go.ChangeShapes Go.WideShapes Go.ChangeAt Go.RowKit
set_option linter.unusedVariables false      -- a walk need not use every 'w<i>' (that an integer argument fits its kind)

theorem own : ownKnob Try.prog.godebug = none := by kernel_rfl

/-! ### STEP 1: THE WALK: the Go text returns true. 'Grown w w'': the world has at most new blocks (Derived/RowKit3.lean). Part the cases AHEAD of 'go_enter' where a test parts the walk; take each callee by a contract of your own. -/
theorem walk (a0 : Int) (w0 : (Lit.int .i64 a0).wf = true) (w : World) :
    Calls Try.prog 5 #[.int .i64 a0] w fun e w' => e = .returned (.bool true) ∧ Grown w w' := by
  have b0 : -9223372036854775808 ≤ a0 ∧ a0 ≤ 9223372036854775807 := by simpa [Lit.wf, IntKind.min, IntKind.max, IntKind.signed, IntKind.bits] using w0
  have c14 := Lib.hid head_any
  have x1 := fun w => valid_any a0 w
  have x2 := fun w => slot_any a0 w
  have x3 := fun w => genOf_any a0 w
  by_cases hv : 0 ≤ a0 ∧ a0 ≤ 70368744177727
  · have x4 := fun w => make_any (a0 % 64) (a0 / 64) w (by omega) (by omega) (by omega) (by omega)
    simp only [(vld_iff a0).2 hv, show slotOf a0 = a0 % 64 from if_pos hv, show genOf a0 = a0 / 64 from if_pos hv, show 64 * (a0 / 64) + a0 % 64 = a0 by omega] at x1 x2 x3 x4
    have X1 := Lib.hid x1
    have X2 := Lib.hid x2
    have X3 := Lib.hid x3
    have X4 := Lib.hid x4
    clear x1 x2 x3 x4
    have hv1 := hv.1
    have hv2 := hv.2
    clear hv
    have f1 : decide (0 ≤ a0 % 64) = true := by simp; omega
    have f2 : decide (a0 % 64 < 64) = true := by simp; omega
    have f3 : decide (0 ≤ a0 / 64) = true := by simp; omega
    have f4 : decide (a0 / 64 ≤ 1099511627776) = true := by simp; omega
    go_enter Try.func5, Try.ntmps5
    go_wp2_with (first
      | (go_at_call 14; (with_reducible refine (c14.out _).mono ?_); rintro e w' ⟨rfl, rfl⟩)
      | (go_at_call 24; (with_reducible refine (X1.out _).mono ?_); rintro e w' ⟨rfl, rfl⟩)
      | (go_at_call 26; (with_reducible refine (X2.out _).mono ?_); rintro e w' ⟨rfl, rfl⟩)
      | (go_at_call 28; (with_reducible refine (X3.out _).mono ?_); rintro e w' ⟨rfl, rfl⟩)
      | (go_at_call 22; (with_reducible refine (X4.out _).mono ?_); rintro e w' ⟨rfl, rfl⟩))
    go_ret
    exact ⟨rfl, by repeat (first | exact Grown.refl _ | apply Grown.drew | apply Grown.alloc)⟩
  · simp only [(vld_iff_not a0).2 hv, show slotOf a0 = -1 from if_neg hv, show genOf a0 = -1 from if_neg hv] at x1 x2 x3
    have X1 := Lib.hid x1
    have X2 := Lib.hid x2
    have X3 := Lib.hid x3
    clear x1 x2 x3
    by_cases hn : a0 < 0
    all_goals
      try (have f1 : decide (a0 < 0) = false := by simpa using hn)
      try (have f2 : decide (70368744177727 < a0) = true := by simp; omega)
      clear hv
      go_enter Try.func5, Try.ntmps5
      go_wp2_with (first
        | (go_at_call 14; (with_reducible refine (c14.out _).mono ?_); rintro e w' ⟨rfl, rfl⟩)
        | (go_at_call 24; (with_reducible refine (X1.out _).mono ?_); rintro e w' ⟨rfl, rfl⟩)
        | (go_at_call 26; (with_reducible refine (X2.out _).mono ?_); rintro e w' ⟨rfl, rfl⟩)
        | (go_at_call 28; (with_reducible refine (X3.out _).mono ?_); rintro e w' ⟨rfl, rfl⟩))
      go_ret
      exact ⟨rfl, by repeat (first | exact Grown.refl _ | apply Grown.drew | apply Grown.alloc)⟩

/-! ### THE ROW's STEP: WRITTEN OUT: LEAVE IT -/
set_option maxRecDepth 100000 in
theorem lifted (os : Os) (started : os.Started) (H : Type) (enc : TypeId × Value → H) :
    ReturnsInHanded {} Try.checked os 5 .any (Rows.handleUnpackSpec.pre6 enc Try.prog Try.f5 Rows.handleUnpackRow.domain false) (Rows.handleUnpackSpec.post enc Try.prog Try.f5 false true false false) := by
  refine returnsInHanded_of_change (C := Try.checked) own started (by kernel_rfl) Try.func5
    (ChangeSpec.witness6 (enc := enc) (C := Try.checked) false ⟨#[], #[.int .i64 0], []⟩ 8 (by kernel_rfl) (by kernel_rfl) (by kernel_rfl) (by kernel_rfl)) ?_
  intro W base args ds gs before hval0 hW hcnd _
  have hval : ∀ (j : Nat) t v, Try.f5.params[j]? = some t → args[j]? = some v → Value.okWide Try.prog W .any base t v := hval0
  have hW' := hW
  obtain ⟨p, q, hA0, hV, rfl, hfz, hnd⟩ := hW
  have hA : DataW.TrodAll enc Try.prog W 0 (fun _ => true) true Try.f5.params.toList args.toList ds p := hA0
  rw [Try.params5] at hA hval
  obtain ⟨v0, vs0, d0, ds0, p0, q0, hargs, rfl, rfl, h0, r0⟩ := trodAll_cons hA
  obtain ⟨rfl, rfl, rfl⟩ := trodAll_nil r0
  obtain rfl : args = #[v0] := by cases args; simp_all
  obtain ⟨rfl, rfl⟩ := trodVars_none hV
  obtain ⟨a0, rfl, rfl, rfl, w0⟩ := open_int Try.underlying3 (hval 0 3 v0 rfl rfl) h0
  clear hA0 hval0
  simp only [List.append_nil] at hW'
  refine (walk a0 w0 W).mono fun e W' ⟨he, hg⟩ => ?_
  subst he
  exact ⟨_, rfl, post_of_same (pa := []) (pv := []) hW' (fun _ _ _ => (trodAll_cons_mk (shut_bool Try.underlying4 _) trodAll_mk0)) (fun sp _ => (trodAll_cons_mk (shut_int Try.underlying3 w0) trodAll_mk0)) (fun _ _ => rfl) rfl
    (hg.frame _) hg.2.1 (ok_one (by kernel_rfl) rfl (okWide_bool_mk Try.underlying4 _))⟩

theorem over : Rows.handleUnpackRow.holds Try.pinned (OpenSpec.ofChange Rows.handleUnpackSpec) :=
  OpenClaim.holds_of_wide 5 Try.f5 rfl rfl rfl rfl rfl rfl rfl ⟨rfl, rfl, rfl, rfl, rfl⟩ rfl rfl rfl rfl rfl (by kernel_rfl) Try.func5 (by kernel_rfl)
    (of_decide_eq_true (by kernel_rfl)) (by unfold Func.isWrapper; first | (rw [if_pos (by decide +kernel)]; kernel_rfl) | (rw [if_neg (by decide +kernel)]; exact ⟨rfl, rfl⟩))
    (fun os started H enc _ => lifted os started H enc)

/-- ████ THE STATEMENT ████ -/
theorem proved : Rows.HandleUnpackSaid :=
  over
#print axioms proved
end Go.Proofs.Ytepepidjefpckaa.handleUnpack
