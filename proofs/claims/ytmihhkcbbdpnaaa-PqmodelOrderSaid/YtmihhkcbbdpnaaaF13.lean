/- The laws' own helpers: made models, small ones, the fixed examples. -/
import Derived.Test.YtmihhkcbbdpnaaaF12
namespace Go.Proofs.Ytmihhkcbbdpnaaa.Abs
open Go.Proofs
set_option maxRecDepth 10000
set_option linter.unusedSimpArgs false
set_option linter.unusedVariables false

structure Stp where
  call : Cal
  handle : Int
def Stp.v (s : Stp) : V := .agg [V.int s.call.kind, V.int s.call.time, V.int s.call.handle, V.int s.call.max, V.int s.call.bound, V.int s.handle]
def Stp.row (s : Stp) : List D := [.c (.int .i64 s.call.kind), .c (.int .i64 s.call.time), .c (.int .i64 s.call.handle), .c (.int .i64 s.call.max), .c (.int .i64 s.call.bound), .c (.int .i64 s.handle)]
def stpsV (l : List Stp) : V := .lst 6 (l.map Stp.row) false
def stepM (m : Mod) (s : Stp) : Mod := (doM m s.call s.handle).1
def madeM (k : Int) (l : List Stp) : Mod := (l.take 100).foldl stepM (newM (k.tmod 64 + 1)).1
theorem foldl_ok : ∀ (l : List Stp) (m : Mod), m.Ok → (l.foldl stepM m).Ok
  | [], m, h => h
  | s :: l, m, h => foldl_ok l _ (doM_ok h s.call s.handle)
theorem foldl_iss : ∀ (l : List Stp) (m : Mod), (l.foldl stepM m).iss.length ≤ m.iss.length + l.length
  | [], m => by simp
  | s :: l, m => by
    have h1 := foldl_iss l (stepM m s)
    have h2 : (stepM m s).iss.length ≤ m.iss.length + 1 := doM_iss m s.call s.handle
    simp only [List.foldl_cons, List.length_cons]
    omega
theorem newM_iss (c : Int) : (newM c).1.iss.length = 0 := by unfold newM; split <;> rfl
theorem madeM_ok {k : Int} (hk : 0 ≤ k ∧ k ≤ 255) (l : List Stp) : (madeM k l).Ok := by
  have : k.tmod 64 = k % 64 := Int.tmod_eq_emod_of_nonneg hk.1
  exact foldl_ok _ _ (newM_ok (by omega))
theorem madeM_iss (k : Int) (l : List Stp) : (madeM k l).iss.length ≤ 100 := by
  have := foldl_iss (l.take 100) (newM (k.tmod 64 + 1)).1
  rw [newM_iss, List.length_take] at this
  unfold madeM
  omega
theorem madeC (k : Int) (l : List Stp) (hk : 0 ≤ k ∧ k ≤ 255) : PSpec Try.prog 24 [.c (.int .u8 k), stpsV l] (madeM k l).v := by
  have hkm : k.tmod 64 = k % 64 := Int.tmod_eq_emod_of_nonneg hk.1
  have ok0 := newM_ok (c := k.tmod 64 + 1) (by omega)
  refine pspec tab_ok mix Try.func24 (by kernel_rfl) rfl rfl ?_
  ((conv => whnf); (repeat (first | ((first | refine z1 ?_ | refine z2 ?_ | refine z3 ?_ | refine idxB_at (by decide) rfl ?_ | refine atB_at (by decide) (by decide) ?_ | refine getB_lit _ rfl ?_ | refine z7 ?_); conv => whnf) | trivial)))
  refine callB (refNewC (k.tmod 64 + 1)) ?_
  ((conv => whnf); (repeat (first | ((first | refine z1 ?_ | refine z2 ?_ | refine z3 ?_ | refine idxB_at (by decide) rfl ?_ | refine atB_at (by decide) (by decide) ?_ | refine getB_lit _ rfl ?_ | refine z7 ?_); conv => whnf) | trivial)))
  let mk : Nat → Mod := fun i => (l.take i).foldl stepM (newM (k.tmod 64 + 1)).1
  have hmk : ∀ i, mk i = (l.take i).foldl stepM (newM (k.tmod 64 + 1)).1 := fun _ => rfl
  have hok : ∀ i, (mk i).Ok := fun i => foldl_ok _ _ ok0
  have hiss : ∀ i, i ≤ 100 → (mk i).iss.length ≤ 100 := fun i hi => by
    have := foldl_iss (l.take i) (newM (k.tmod 64 + 1)).1
    rw [newM_iss, List.length_take] at this
    rw [hmk]; omega
  have hmade : madeM k l = mk 100 := rfl
  have h0 : (newM (k.tmod 64 + 1)).1 = mk 0 := rfl
  rw [h0, hmade]
  have hnext : ∀ (i : Nat) (x : Stp), l[i]? = some x → mk (i + 1) = stepM (mk i) x := fun i x hx => by
    rw [hmk, hmk, List.take_add_one, hx, Option.toList_some, List.foldl_append]; rfl
  have hend : ∀ i, l.length ≤ i → i ≤ 100 → mk 100 = mk i := fun i h1 h2 => by
    rw [hmk, hmk, List.take_of_length_le (by omega), List.take_of_length_le h1]
  clear_value mk
  refine loopB tab_ok mix [1, 4, 5] [0] (fun i : Nat => [(7, V.int i)]) (fun i => [(576, .rows 4 [[V.int (mk i).cap, entsV (mk i).ents, V.int (mk i).next, intsV (mk i).iss]])]) (fun i => i ≤ l.length ∧ i ≤ 100) (fun i => l.length - i) [] 0 rfl ⟨by omega, by omega⟩ (by ((conv => whnf); (repeat (first | ((first | refine z1 ?_ | refine z2 ?_ | refine z3 ?_ | refine idxB_at (by decide) rfl ?_ | refine atB_at (by decide) (by decide) ?_ | refine getB_lit _ rfl ?_ | refine z7 ?_); conv => whnf) | trivial)))) ?_
  rintro i ⟨h1, h2⟩
  ((conv => whnf); (repeat (first | ((first | refine z1 ?_ | refine z2 ?_ | refine z3 ?_ | refine idxB_at (by decide) rfl ?_ | refine atB_at (by decide) (by decide) ?_ | refine getB_lit _ rfl ?_ | refine z7 ?_); conv => whnf) | trivial)))
  refine br_dec (fun g => ?_) (fun g => ?_) <;> ((conv => whnf); (repeat (first | ((first | refine z1 ?_ | refine z2 ?_ | refine z3 ?_ | refine idxB_at (by decide) rfl ?_ | refine atB_at (by decide) (by decide) ?_ | refine getB_lit _ rfl ?_ | refine z7 ?_); conv => whnf) | trivial)))
  · simp at g
    refine br_dec (fun g2 => ?_) (fun g2 => ?_) <;> ((conv => whnf); (repeat (first | ((first | refine z1 ?_ | refine z2 ?_ | refine z3 ?_ | refine idxB_at (by decide) rfl ?_ | refine atB_at (by decide) (by decide) ?_ | refine getB_lit _ rfl ?_ | refine z7 ?_); conv => whnf) | trivial)))
    · obtain ⟨x, hx⟩ := get_lt g
      refine idxB hx ?_
      ((conv => whnf); (repeat (first | ((first | refine z1 ?_ | refine z2 ?_ | refine z3 ?_ | refine idxB_at (by decide) rfl ?_ | refine atB_at (by decide) (by decide) ?_ | refine getB_lit _ rfl ?_ | refine z7 ?_); conv => whnf) | trivial)))
      refine idxB hx ?_
      ((conv => whnf); (repeat (first | ((first | refine z1 ?_ | refine z2 ?_ | refine z3 ?_ | refine idxB_at (by decide) rfl ?_ | refine atB_at (by decide) (by decide) ?_ | refine getB_lit _ rfl ?_ | refine z7 ?_); conv => whnf) | trivial)))
      refine dcallB (refDoC (mk i) x.call x.handle ((hok i).fits (by have := hiss i h2; omega)) ((hok i).ins _ _)) ?_
      ((conv => whnf); (repeat (first | ((first | refine z1 ?_ | refine z2 ?_ | refine z3 ?_ | refine idxB_at (by decide) rfl ?_ | refine atB_at (by decide) (by decide) ?_ | refine getB_lit _ rfl ?_ | refine z7 ?_); conv => whnf) | trivial)))
      refine .mk [] (i + 1) ⟨by omega, by omega⟩ (by omega) ?_
      rw [hnext i x hx]
      ((conv => whnf); (repeat (first | ((first | refine z1 ?_ | refine z2 ?_ | refine z3 ?_ | refine idxB_at (by decide) rfl ?_ | refine atB_at (by decide) (by decide) ?_ | refine getB_lit _ rfl ?_ | refine z7 ?_); conv => whnf) | trivial)))
    · refine frzK ?_
      have : i = 100 := by omega
      subst this
      ((conv => whnf); (repeat (first | ((first | refine z1 ?_ | refine z2 ?_ | refine z3 ?_ | refine idxB_at (by decide) rfl ?_ | refine atB_at (by decide) (by decide) ?_ | refine getB_lit _ rfl ?_ | refine z7 ?_); conv => whnf) | trivial)))
  · refine frzK ?_
    rw [hend i (by simp at g; omega) h2]
    ((conv => whnf); (repeat (first | ((first | refine z1 ?_ | refine z2 ?_ | refine z3 ?_ | refine idxB_at (by decide) rfl ?_ | refine atB_at (by decide) (by decide) ?_ | refine getB_lit _ rfl ?_ | refine z7 ?_); conv => whnf) | trivial)))
theorem smallC (m : Mod) : PSpec Try.prog 21 [m.v] (V.bool (decide (m.ents.length ≤ 100 ∧ m.iss.length ≤ 200))) := by
  refine pspec tab_ok mix Try.func21 (by kernel_rfl) rfl rfl ?_
  ((conv => whnf); (repeat (first | ((first | refine z1 ?_ | refine z2 ?_ | refine z3 ?_ | refine idxB_at (by decide) rfl ?_ | refine atB_at (by decide) (by decide) ?_ | refine getB_lit _ rfl ?_ | refine z7 ?_); conv => whnf) | trivial)))
  refine br_dec (fun g => ?_) (fun g => ?_) <;> ((conv => whnf); (repeat (first | ((first | refine z1 ?_ | refine z2 ?_ | refine z3 ?_ | refine idxB_at (by decide) rfl ?_ | refine atB_at (by decide) (by decide) ?_ | refine getB_lit _ rfl ?_ | refine z7 ?_); conv => whnf) | trivial)))
  · simp at g
    exact .same (congrArg (fun z => V.c (.bool z)) (decide_eq_decide.2 (by simp; omega)))
  · simp at g
    exact .same (by rw [decide_eq_false]; omega)
end Go.Proofs.Ytmihhkcbbdpnaaa.Abs
