/-
  THE SHELL OF A PROOF OF 'Rows.HandleRoundTripSaid' ('ropeladder/ropeladderlaw04.HandleRoundTrip'), WRITTEN BY PROGRAM (proof-skeleton.mjs) off the guide's own print for that function. Not trusted: Lean checks it.
  YOURS ARE THE HOLES MARKED 'HOLE' (each bears 'sorry'). ALL ELSE IS THE GUIDE's TEMPLATE (howto/template/XProofs.lean) at this function's number and types: leave it.
-/
import Derived.Test.YtepepidjefpckaaRows
import Derived.WalkKit
import Derived.ProofKit
import Derived.OpenShut
import Derived.Test.YtepepidjefpckaaH
namespace Go.Proofs.Ytepepidjefpckaa.handleRoundTrip
open Hd
open Go.ChangeShapes Go.WideShapes Go.ChangeAt Go.RowKit
set_option linter.unusedVariables false      -- a walk need not use every 'w<i>' (that an integer argument fits its kind)

theorem own : ownKnob Try.prog.godebug = none := by kernel_rfl

/-! ### STEP 1: THE WALK: the Go text returns true. 'Grown w w'': the world has at most new blocks (Derived/RowKit3.lean). Part the cases AHEAD of 'go_enter' where a test parts the walk; take each callee by a contract of your own. -/
theorem walk (a0 : Int) (a1 : Int) (a2 : Int) (w0 : (Lit.int .u64 a0).wf = true) (w1 : (Lit.int .u8 a1).wf = true) (w2 : (Lit.int .u8 a2).wf = true) (w : World) :
    Calls Try.prog 4 #[.int .u64 a0, .int .u8 a1, .int .u8 a2] w fun e w' => e = .returned (.bool true) ∧ Grown w w' := by
  have b0 : 0 ≤ a0 ∧ a0 < 18446744073709551616 := by have := w0; simp [Lit.wf, IntKind.min, IntKind.max, IntKind.signed, IntKind.bits] at this; omega
  have b1 : 0 ≤ a1 ∧ a1 < 256 := by have := w1; simp [Lit.wf, IntKind.min, IntKind.max, IntKind.signed, IntKind.bits] at this; omega
  have b2 : 0 ≤ a2 ∧ a2 < 256 := by have := w2; simp [Lit.wf, IntKind.min, IntKind.max, IntKind.signed, IntKind.bits] at this; omega
  have hg := gn_bd a0
  have HG := fun w => Gen_any a0 w b0.1
  generalize gn a0 = g at *
  obtain ⟨s, hs⟩ : ∃ s, s = a1 % 4 := ⟨_, rfl⟩
  obtain ⟨i, hi⟩ : ∃ i, i = a2 % 64 := ⟨_, rfl⟩
  have c0 := fun w => head_any w 
  have C0 := Lib.hid c0
  clear c0
  have c1 := fun w => HG w 
  have C1 := Lib.hid c1
  clear c1
  have c2 := fun w => (fun w => word_any g (a1 % 4) w hg.1 hg.2 (by omega) (by omega)) w 
  have C2 := Lib.hid c2
  clear c2
  have c3 := fun w => (fun w => make_any (a2 % 64) g w hg.1 hg.2 (by omega) (by omega)) w 
  have C3 := Lib.hid c3
  clear c3
  have c4 := fun w => (gen_any (4 * g + a1 % 4)) w 
  simp only [show (4 * g + a1 % 4) / 4 = g from by omega] at c4
  have C4 := Lib.hid c4
  clear c4
  have c5 := fun w => (fun w => state_any (4 * g + a1 % 4) w (by omega) (by omega)) w 
  simp only [show (4 * g + a1 % 4) % 4 = a1 % 4 from by omega] at c5
  have C5 := Lib.hid c5
  clear c5
  have c6 := fun w => (valid_any (64 * g + a2 % 64)) w 
  simp only [show vld (64 * g + a2 % 64) = true from by rw [vld_iff]; omega] at c6
  have C6 := Lib.hid c6
  clear c6
  have c7 := fun w => (slot_any (64 * g + a2 % 64)) w 
  simp only [show slotOf (64 * g + a2 % 64) = a2 % 64 from by unfold slotOf; rw [if_pos (by omega)]; omega] at c7
  have C7 := Lib.hid c7
  clear c7
  have c8 := fun w => (genOf_any (64 * g + a2 % 64)) w 
  simp only [show genOf (64 * g + a2 % 64) = g from by unfold genOf; rw [if_pos (by omega)]; omega] at c8
  have C8 := Lib.hid c8
  clear c8
  go_enter Try.func4, Try.ntmps4
  go_wp2_with (first
    | (go_at_call 14; (with_reducible refine (C0.out _).mono ?_); rintro e w' ⟨rfl, rfl⟩)
    | (go_at_call 15; (with_reducible refine (C1.out _).mono ?_); rintro e w' ⟨rfl, rfl⟩)
    | (go_at_call 17; (with_reducible refine (C2.out _).mono ?_); rintro e w' ⟨rfl, rfl⟩)
    | (go_at_call 22; (with_reducible refine (C3.out _).mono ?_); rintro e w' ⟨rfl, rfl⟩)
    | (go_at_call 18; (with_reducible refine (C4.out _).mono ?_); rintro e w' ⟨rfl, rfl⟩)
    | (go_at_call 20; (with_reducible refine (C5.out _).mono ?_); rintro e w' ⟨rfl, rfl⟩)
    | (go_at_call 24; (with_reducible refine (C6.out _).mono ?_); rintro e w' ⟨rfl, rfl⟩)
    | (go_at_call 26; (with_reducible refine (C7.out _).mono ?_); rintro e w' ⟨rfl, rfl⟩)
    | (go_at_call 28; (with_reducible refine (C8.out _).mono ?_); rintro e w' ⟨rfl, rfl⟩))
  all_goals
    go_ret
    exact ⟨rfl, by repeat (first | exact Grown.refl _ | apply Grown.drew | apply Grown.alloc)⟩

/-! ### THE ROW's STEP: WRITTEN OUT: LEAVE IT -/
set_option maxRecDepth 100000 in
theorem lifted (os : Os) (started : os.Started) (H : Type) (enc : TypeId × Value → H) :
    ReturnsInHanded {} Try.checked os 4 .any (Rows.handleRoundTripSpec.pre6 enc Try.prog Try.f4 Rows.handleRoundTripRow.domain false) (Rows.handleRoundTripSpec.post enc Try.prog Try.f4 false true false false) := by
  refine returnsInHanded_of_change (C := Try.checked) own started (by kernel_rfl) Try.func4
    (ChangeSpec.witness6 (enc := enc) (C := Try.checked) false ⟨#[], #[.int .u64 0, .int .u8 0, .int .u8 0], []⟩ 8 (by kernel_rfl) (by kernel_rfl) (by kernel_rfl) (by kernel_rfl)) ?_
  intro W base args ds gs before hval0 hW hcnd _
  have hval : ∀ (j : Nat) t v, Try.f4.params[j]? = some t → args[j]? = some v → Value.okWide Try.prog W .any base t v := hval0
  have hW' := hW
  obtain ⟨p, q, hA0, hV, rfl, hfz, hnd⟩ := hW
  have hA : DataW.TrodAll enc Try.prog W 0 (fun _ => true) true Try.f4.params.toList args.toList ds p := hA0
  rw [Try.params4] at hA hval
  obtain ⟨v0, vs0, d0, ds0, p0, q0, hargs, rfl, rfl, h0, r0⟩ := trodAll_cons hA
  obtain ⟨v1, vs1, d1, ds1, p1, q1, rfl, rfl, rfl, h1, r1⟩ := trodAll_cons r0
  obtain ⟨v2, vs2, d2, ds2, p2, q2, rfl, rfl, rfl, h2, r2⟩ := trodAll_cons r1
  obtain ⟨rfl, rfl, rfl⟩ := trodAll_nil r2
  obtain rfl : args = #[v0, v1, v2] := by cases args; simp_all
  obtain ⟨rfl, rfl⟩ := trodVars_none hV
  obtain ⟨a0, rfl, rfl, rfl, w0⟩ := open_int Try.underlying22 (hval 0 22 v0 rfl rfl) h0
  obtain ⟨a1, rfl, rfl, rfl, w1⟩ := open_int Try.underlying5 (hval 1 5 v1 rfl rfl) h1
  obtain ⟨a2, rfl, rfl, rfl, w2⟩ := open_int Try.underlying5 (hval 2 5 v2 rfl rfl) h2
  clear hA0 hval0
  simp only [List.append_nil] at hW'
  refine (walk a0 a1 a2 w0 w1 w2 W).mono fun e W' ⟨he, hg⟩ => ?_
  subst he
  exact ⟨_, rfl, post_of_same (pa := []) (pv := []) hW' (fun _ _ _ => (trodAll_cons_mk (shut_bool Try.underlying4 _) trodAll_mk0)) (fun sp _ => (trodAll_cons_mk (shut_int Try.underlying22 w0) (trodAll_cons_mk (shut_int Try.underlying5 w1) (trodAll_cons_mk (shut_int Try.underlying5 w2) trodAll_mk0)))) (fun _ _ => rfl) rfl
    (hg.frame _) hg.2.1 (ok_one (by kernel_rfl) rfl (okWide_bool_mk Try.underlying4 _))⟩

theorem over : Rows.handleRoundTripRow.holds Try.pinned (OpenSpec.ofChange Rows.handleRoundTripSpec) :=
  OpenClaim.holds_of_wide 4 Try.f4 rfl rfl rfl rfl rfl rfl rfl ⟨rfl, rfl, rfl, rfl, rfl⟩ rfl rfl rfl rfl rfl (by kernel_rfl) Try.func4 (by kernel_rfl)
    (of_decide_eq_true (by kernel_rfl)) (by unfold Func.isWrapper; first | (rw [if_pos (by decide +kernel)]; kernel_rfl) | (rw [if_neg (by decide +kernel)]; exact ⟨rfl, rfl⟩))
    (fun os started H enc _ => lifted os started H enc)

/-- ████ THE STATEMENT ████ -/
theorem proved : Rows.HandleRoundTripSaid :=
  over
#print axioms proved
end Go.Proofs.Ytepepidjefpckaa.handleRoundTrip
