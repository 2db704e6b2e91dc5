/- slices.Insert of one element, at one type. -/
import Derived.Test.YtmihhkcbbdpnaaaF4
import Derived.Test.YtmihhkcbbdpnaaaF0
namespace Go.Proofs.Ytmihhkcbbdpnaaa.Abs
open Go.Proofs
set_option maxRecDepth 10000
set_option linter.unusedSimpArgs false
set_option linter.unusedVariables false
theorem insertEnt0 (x : Ent) : LSpec Try.prog 110 [.ac 0 4 0, V.int 0, .lst 4 [Ent.row x] true] [(0, .dat 4 [])] 1 (.ac 1 4 1) [(1, .dat 4 [Ent.row x])] 2 := by
  refine lspec tab_ok mix Try.func110 (by kernel_rfl) (by rfl) (by rfl) (by rfl) (by rfl) ?_
  ((conv => whnf); (repeat (first | ((first | refine z1 ?_ | refine z2 ?_ | refine z3 ?_ | refine idxB_at (by decide) rfl ?_ | refine atB_at (by decide) (by decide) ?_ | refine getB_lit _ rfl ?_ | refine z7 ?_); conv => whnf) | trivial)))
  refine slB 0 0 rfl rfl (by omega) ?_
  ((conv => whnf); (repeat (first | ((first | refine z1 ?_ | refine z2 ?_ | refine z3 ?_ | refine idxB_at (by decide) rfl ?_ | refine atB_at (by decide) (by decide) ?_ | refine getB_lit _ rfl ?_ | refine z7 ?_); conv => whnf) | trivial)))
  refine .mk [(1, 1152)] ?_
  ((conv => whnf); (repeat (first | ((first | refine z1 ?_ | refine z2 ?_ | refine z3 ?_ | refine idxB_at (by decide) rfl ?_ | refine atB_at (by decide) (by decide) ?_ | refine getB_lit _ rfl ?_ | refine z7 ?_); conv => whnf) | trivial)))
set_option maxHeartbeats 1000000 in
theorem insertEnt (R : List Ent) (i : Nat) (x : Ent) (hi : i ≤ R.length) (h0 : 0 < R.length) (hl : R.length < 1073741824) :
    LSpec Try.prog 110 [.ac 0 4 R.length, V.int i, .lst 4 [Ent.row x] true] [(0, .dat 4 (R.map Ent.row))] 1 (.ac 1 4 (R.length + 1)) [(1, .dat 4 ((R.take i ++ x :: R.drop i).map Ent.row))] 2 := by
  refine LSpec.room fun cap hcap => ?_
  have hne : R.map Ent.row ≠ [] := by intro e; rw [List.map_eq_nil_iff] at e; subst e; simp at h0
  have e1 : [Ent.row x].length = 1 := rfl
  have ne : ∀ {l : List (List D)}, 0 < l.length → l ≠ [] := fun h e => by rw [e] at h; simp at h
  have hlm : (R.map Ent.row).length = R.length := List.length_map _
  refine lspec tab_ok mix Try.func110 (by kernel_rfl) (by rfl) (by rfl) (by rfl) (by rfl) ?_
  ((conv => whnf); (repeat (first | ((first | refine z1 ?_ | refine z2 ?_ | refine z3 ?_ | refine idxB_at (by decide) rfl ?_ | refine atB_at (by decide) (by decide) ?_ | refine getB_lit _ rfl ?_ | refine z7 ?_); conv => whnf) | trivial)))
  refine cutSx tab_ok _ rfl i R.length rfl ⟨_, rfl⟩ rfl hi hcap ?_
  ((conv => whnf); (repeat (first | ((first | refine z1 ?_ | refine z2 ?_ | refine z3 ?_ | refine idxB_at (by decide) rfl ?_ | refine atB_at (by decide) (by decide) ?_ | refine getB_lit _ rfl ?_ | refine z7 ?_); conv => whnf) | trivial)))
  refine asSl tab_ok ?_
  ((conv => whnf); (repeat (first | ((first | refine z1 ?_ | refine z2 ?_ | refine z3 ?_ | refine idxB_at (by decide) rfl ?_ | refine atB_at (by decide) (by decide) ?_ | refine getB_lit _ rfl ?_ | refine z7 ?_); conv => whnf) | trivial)))
  refine br_dec (fun h => ?_) (fun h => ?_) <;> ((conv => whnf); (repeat (first | ((first | refine z1 ?_ | refine z2 ?_ | refine z3 ?_ | refine idxB_at (by decide) rfl ?_ | refine atB_at (by decide) (by decide) ?_ | refine getB_lit _ rfl ?_ | refine z7 ?_); conv => whnf) | trivial)))
  · have e : i = R.length := by omega
    subst e
    refine asSl tab_ok ?_
    ((conv => whnf); (repeat (first | ((first | refine z1 ?_ | refine z2 ?_ | refine z3 ?_ | refine idxB_at (by decide) rfl ?_ | refine atB_at (by decide) (by decide) ?_ | refine getB_lit _ rfl ?_ | refine z7 ?_); conv => whnf) | trivial)))
    refine cb ⟨hne, by omega, by simp; omega⟩ ?_
    ((conv => whnf); (repeat (first | ((first | refine z1 ?_ | refine z2 ?_ | refine z3 ?_ | refine idxB_at (by decide) rfl ?_ | refine atB_at (by decide) (by decide) ?_ | refine getB_lit _ rfl ?_ | refine z7 ?_); conv => whnf) | trivial)))
    refine .mk [(1, 1152)] ?_
    ((conv => whnf); (repeat (first | ((first | refine z1 ?_ | refine z2 ?_ | refine z3 ?_ | refine idxB_at (by decide) rfl ?_ | refine atB_at (by decide) (by decide) ?_ | refine getB_lit _ rfl ?_ | refine z7 ?_); conv => whnf) | trivial)))
    refine cb ?_ trivial
    simp [List.take_of_length_le, hlm]
  · have hin : i < R.length := by omega
    refine capB tab_ok _ rfl rfl ?_
    ((conv => whnf); (repeat (first | ((first | refine z1 ?_ | refine z2 ?_ | refine z3 ?_ | refine idxB_at (by decide) rfl ?_ | refine atB_at (by decide) (by decide) ?_ | refine getB_lit _ rfl ?_ | refine z7 ?_); conv => whnf) | trivial)))
    refine br_dec (fun hg => ?_) (fun hg => ?_) <;> ((conv => whnf); (repeat (first | ((first | refine z1 ?_ | refine z2 ?_ | refine z3 ?_ | refine idxB_at (by decide) rfl ?_ | refine atB_at (by decide) (by decide) ?_ | refine getB_lit _ rfl ?_ | refine z7 ?_); conv => whnf) | trivial)))
    · refine cutSx tab_ok _ rfl 0 i rfl rfl ⟨_, rfl⟩ (by omega) (by omega) ?_
      ((conv => whnf); (repeat (first | ((first | refine z1 ?_ | refine z2 ?_ | refine z3 ?_ | refine idxB_at (by decide) rfl ?_ | refine atB_at (by decide) (by decide) ?_ | refine getB_lit _ rfl ?_ | refine z7 ?_); conv => whnf) | trivial)))
      refine appendZ tab_ok _ _ [.c (.int .i64 0), .c (.int .i64 0), .c (.int .i64 0), .c (.bool false)] rfl (.c _ rfl (.c _ rfl (.c _ rfl (.c _ rfl .nil)))) rfl rfl (R.length + 1 - i) rfl (kq := .i64) (congrArg (fun z : Int => V.c (.int .i64 z)) (by omega : (R.length : Int) + ([Ent.row x].length : Int) - (i : Int) = ((R.length + 1 - i : Nat) : Int))) rfl ⟨hne, by simp; omega, by simp at hg ⊢; omega, by omega, by omega⟩ rfl rfl ?_
      ((conv => whnf); (repeat (first | ((first | refine z1 ?_ | refine z2 ?_ | refine z3 ?_ | refine idxB_at (by decide) rfl ?_ | refine atB_at (by decide) (by decide) ?_ | refine getB_lit _ rfl ?_ | refine z7 ?_); conv => whnf) | trivial)))
      refine slB i (R.length + 1) rfl (by show _ = _; omega) (by omega) ?_
      ((conv => whnf); (repeat (first | ((first | refine z1 ?_ | refine z2 ?_ | refine z3 ?_ | refine idxB_at (by decide) rfl ?_ | refine atB_at (by decide) (by decide) ?_ | refine getB_lit _ rfl ?_ | refine z7 ?_); conv => whnf) | trivial)))
      refine copyB tab_ok _ rfl 1 rfl rfl ⟨ne (by simp; omega), by simp; omega, by simp; omega⟩ (.lst _ _ (by simp)) ?_
      ((conv => whnf); (repeat (first | ((first | refine z1 ?_ | refine z2 ?_ | refine z3 ?_ | refine idxB_at (by decide) rfl ?_ | refine atB_at (by decide) (by decide) ?_ | refine getB_lit _ rfl ?_ | refine z7 ?_); conv => whnf) | trivial)))
      refine slB (i + 1) (R.length + 1) (by show (i : Int) + ([Ent.row x].length : Int) = _; omega) (by show _ = _; omega) (by omega) ?_
      ((conv => whnf); (repeat (first | ((first | refine z1 ?_ | refine z2 ?_ | refine z3 ?_ | refine idxB_at (by decide) rfl ?_ | refine atB_at (by decide) (by decide) ?_ | refine getB_lit _ rfl ?_ | refine z7 ?_); conv => whnf) | trivial)))
      refine dcutSx tab_ok _ rfl i R.length rfl ⟨_, rfl⟩ rfl ⟨by omega, by omega⟩ ?_
      ((conv => whnf); (repeat (first | ((first | refine z1 ?_ | refine z2 ?_ | refine z3 ?_ | refine idxB_at (by decide) rfl ?_ | refine atB_at (by decide) (by decide) ?_ | refine getB_lit _ rfl ?_ | refine z7 ?_); conv => whnf) | trivial)))
      refine dcopyB tab_ok _ rfl (R.length - i) rfl rfl ⟨ne (by simp; omega), by simp; omega, by omega⟩ (.sx _ _ _ _ (R.map Ent.row) rfl hne (by omega) (by omega)) ?_
      ((conv => whnf); (repeat (first | ((first | refine z1 ?_ | refine z2 ?_ | refine z3 ?_ | refine idxB_at (by decide) rfl ?_ | refine atB_at (by decide) (by decide) ?_ | refine getB_lit _ rfl ?_ | refine z7 ?_); conv => whnf) | trivial)))
      refine .mk [(1, 1920)] ?_
      ((conv => whnf); (repeat (first | ((first | refine z1 ?_ | refine z2 ?_ | refine z3 ?_ | refine idxB_at (by decide) rfl ?_ | refine atB_at (by decide) (by decide) ?_ | refine getB_lit _ rfl ?_ | refine z7 ?_); conv => whnf) | trivial)))
      refine cb ?_ trivial
      have := insRows1 (R.map Ent.row) i (by omega) (Ent.row x) (List.replicate (R.length + 1 - i) [.c (.int .i64 0), .c (.int .i64 0), .c (.int .i64 0), .c (.bool false)]) (by simp)
      simp only [Nat.zero_add, Nat.sub_zero, List.drop_zero, List.take_succ_cons, List.take_zero]
      rw [hlm] at this
      rw [this]; simp
    · refine cutSl tab_ok _ rfl 0 (R.length + 1) rfl rfl ⟨.i64, congrArg (fun z : Int => V.c (.int .i64 z)) (by omega : (R.length : Int) + ([Ent.row x].length : Int) = ((R.length + 1 : Nat) : Int))⟩ ⟨by omega, by omega⟩ ?_
      ((conv => whnf); (repeat (first | ((first | refine z1 ?_ | refine z2 ?_ | refine z3 ?_ | refine idxB_at (by decide) rfl ?_ | refine atB_at (by decide) (by decide) ?_ | refine getB_lit _ rfl ?_ | refine z7 ?_); conv => whnf) | trivial)))
      refine slB (i + 1) (R.length + 1) (by show (i : Int) + ([Ent.row x].length : Int) = _; omega) (by show _ = _; omega) (by omega) ?_
      ((conv => whnf); (repeat (first | ((first | refine z1 ?_ | refine z2 ?_ | refine z3 ?_ | refine idxB_at (by decide) rfl ?_ | refine atB_at (by decide) (by decide) ?_ | refine getB_lit _ rfl ?_ | refine z7 ?_); conv => whnf) | trivial)))
      refine overlapsB (ε := ty49) (tS := 22) (tR := 4) tab_ok Try.func138 (by kernel_rfl) (by kernel_rfl) (by kernel_rfl) (by kernel_rfl) rfl (.sl _ _) rfl hne (by decide) (by omega) ?_
      ((conv => whnf); (repeat (first | ((first | refine z1 ?_ | refine z2 ?_ | refine z3 ?_ | refine idxB_at (by decide) rfl ?_ | refine atB_at (by decide) (by decide) ?_ | refine getB_lit _ rfl ?_ | refine z7 ?_); conv => whnf) | trivial)))
      refine slB (i + 1) (R.length + 1) (by show (i : Int) + ([Ent.row x].length : Int) = _; omega) (by show _ = _; omega) (by omega) ?_
      ((conv => whnf); (repeat (first | ((first | refine z1 ?_ | refine z2 ?_ | refine z3 ?_ | refine idxB_at (by decide) rfl ?_ | refine atB_at (by decide) (by decide) ?_ | refine getB_lit _ rfl ?_ | refine z7 ?_); conv => whnf) | trivial)))
      refine slB i (R.length + 1) rfl (by show _ = _; omega) (by omega) ?_
      ((conv => whnf); (repeat (first | ((first | refine z1 ?_ | refine z2 ?_ | refine z3 ?_ | refine idxB_at (by decide) rfl ?_ | refine atB_at (by decide) (by decide) ?_ | refine getB_lit _ rfl ?_ | refine z7 ?_); conv => whnf) | trivial)))
      refine dcopyB tab_ok _ rfl (R.length - i) rfl rfl ⟨hne, by omega, by omega⟩ (.sl _ _ _ (R.map Ent.row) rfl hne (by omega) (by omega)) ?_
      ((conv => whnf); (repeat (first | ((first | refine z1 ?_ | refine z2 ?_ | refine z3 ?_ | refine idxB_at (by decide) rfl ?_ | refine atB_at (by decide) (by decide) ?_ | refine getB_lit _ rfl ?_ | refine z7 ?_); conv => whnf) | trivial)))
      refine slB i (R.length + 1) rfl (by show _ = _; omega) (by omega) ?_
      ((conv => whnf); (repeat (first | ((first | refine z1 ?_ | refine z2 ?_ | refine z3 ?_ | refine idxB_at (by decide) rfl ?_ | refine atB_at (by decide) (by decide) ?_ | refine getB_lit _ rfl ?_ | refine z7 ?_); conv => whnf) | trivial)))
      refine copyB tab_ok _ rfl 1 rfl rfl ⟨ne (by simp; omega), by simp; omega, by simp; omega⟩ (.lst _ _ (by simp)) ?_
      ((conv => whnf); (repeat (first | ((first | refine z1 ?_ | refine z2 ?_ | refine z3 ?_ | refine idxB_at (by decide) rfl ?_ | refine atB_at (by decide) (by decide) ?_ | refine getB_lit _ rfl ?_ | refine z7 ?_); conv => whnf) | trivial)))
      refine .mk [(1, 0)] ?_
      ((conv => whnf); (repeat (first | ((first | refine z1 ?_ | refine z2 ?_ | refine z3 ?_ | refine idxB_at (by decide) rfl ?_ | refine atB_at (by decide) (by decide) ?_ | refine getB_lit _ rfl ?_ | refine z7 ?_); conv => whnf) | trivial)))
      refine cb ?_ trivial
      have := insRows2 (R.map Ent.row) i (by omega) (Ent.row x)
      simp only [Nat.zero_add, Nat.sub_zero, List.drop_zero, List.take_succ_cons, List.take_zero]
      rw [hlm] at this
      rw [this]; simp
end Go.Proofs.Ytmihhkcbbdpnaaa.Abs
