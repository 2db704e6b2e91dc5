/- The model of the sequential specification: its data, and contracts of small functions. -/
import Derived.Test.YtmihhkcbbdpnaaaL3
import Derived.Test.YtmihhkcbbdpnaaaF1
namespace Go.Proofs.Ytmihhkcbbdpnaaa.Abs
open Go.Proofs
set_option maxRecDepth 10000
set_option linter.unusedSimpArgs false
set_option linter.unusedVariables false

structure Ent where
  time : Int
  seq : Int
  handle : Int
  dead : Bool
deriving DecidableEq
def Ent.v (x : Ent) : V := .agg [V.int x.time, V.int x.seq, V.int x.handle, V.bool x.dead]
def Ent.row (x : Ent) : List D := [.c (.int .i64 x.time), .c (.int .i64 x.seq), .c (.int .i64 x.handle), .c (.bool x.dead)]
structure Evt where
  time : Int
  handle : Int
deriving DecidableEq
def Evt.v (x : Evt) : V := .agg [V.int x.time, V.int x.handle]
def Evt.row (x : Evt) : List D := [.c (.int .i64 x.time), .c (.int .i64 x.handle)]
def intsV (l : List Int) : V := .lst 1 (l.map intD) false
def entsV (l : List Ent) : V := .lst 4 (l.map Ent.row) false
def evtsV (l : List Evt) : V := .lst 2 (l.map Evt.row) false
structure Mod where
  cap : Int
  ents : List Ent
  next : Int
  iss : List Int
deriving DecidableEq
def Mod.v (m : Mod) : V := .agg [V.int m.cap, entsV m.ents, V.int m.next, intsV m.iss]
structure Cal where
  kind : Int
  time : Int
  handle : Int
  max : Int
  bound : Int
deriving DecidableEq
def Cal.v (c : Cal) : V := .agg [V.int c.kind, V.int c.time, V.int c.handle, V.int c.max, V.int c.bound]
structure Res where
  err : Int
  handle : Int
  canc : Bool
  evs : List Evt
deriving DecidableEq
def Res.v (r : Res) : V := .agg [V.int r.err, V.int r.handle, V.bool r.canc, evtsV r.evs]
def Res.er (e : Int) : Res := ⟨e, 0, false, []⟩

def newM (c : Int) : Mod × Int := if c < 1 ∨ 64 < c then (⟨0, [], 0, []⟩, 1) else (⟨c, [], 0, []⟩, 0)
theorem newC (c : Int) : PSpec Try.prog 29 [V.int c] (.tup [(newM c).1.v, V.int (newM c).2]) := by
  refine pspec tab_ok mix Try.func29 (by kernel_rfl) rfl rfl ?_
  ((conv => whnf); (repeat (first | ((first | refine z1 ?_ | refine z2 ?_ | refine z3 ?_ | refine idxB_at (by decide) rfl ?_ | refine atB_at (by decide) (by decide) ?_ | refine getB_lit _ rfl ?_ | refine z7 ?_); conv => whnf) | trivial)))
  refine br_dec (fun h => ?_) (fun h => ?_) <;> ((conv => whnf); (repeat (first | ((first | refine z1 ?_ | refine z2 ?_ | refine z3 ?_ | refine idxB_at (by decide) rfl ?_ | refine atB_at (by decide) (by decide) ?_ | refine getB_lit _ rfl ?_ | refine z7 ?_); conv => whnf) | trivial)))
  · refine frzK ?_
    simp only [newM, h, true_or, if_true]
    ((conv => whnf); (repeat (first | ((first | refine z1 ?_ | refine z2 ?_ | refine z3 ?_ | refine idxB_at (by decide) rfl ?_ | refine atB_at (by decide) (by decide) ?_ | refine getB_lit _ rfl ?_ | refine z7 ?_); conv => whnf) | trivial)))
  · refine br_dec (fun g => ?_) (fun g => ?_) <;> ((conv => whnf); (repeat (first | ((first | refine z1 ?_ | refine z2 ?_ | refine z3 ?_ | refine idxB_at (by decide) rfl ?_ | refine atB_at (by decide) (by decide) ?_ | refine getB_lit _ rfl ?_ | refine z7 ?_); conv => whnf) | trivial)))
    · refine frzK ?_
      simp only [newM, g, or_true, if_true]
      ((conv => whnf); (repeat (first | ((first | refine z1 ?_ | refine z2 ?_ | refine z3 ?_ | refine idxB_at (by decide) rfl ?_ | refine atB_at (by decide) (by decide) ?_ | refine getB_lit _ rfl ?_ | refine z7 ?_); conv => whnf) | trivial)))
    · refine frzK ?_
      simp only [newM, h, g, or_self, if_false]
      ((conv => whnf); (repeat (first | ((first | refine z1 ?_ | refine z2 ?_ | refine z3 ?_ | refine idxB_at (by decide) rfl ?_ | refine atB_at (by decide) (by decide) ?_ | refine getB_lit _ rfl ?_ | refine z7 ?_); conv => whnf) | trivial)))
theorem failC (m : Mod) (e : Int) : PSpec Try.prog 74 [m.v, V.int e] (.tup [m.v, (Res.er e).v]) := by
  refine pspec tab_ok mix Try.func74 (by kernel_rfl) rfl rfl ?_
  ((conv => whnf); (repeat (first | ((first | refine z1 ?_ | refine z2 ?_ | refine z3 ?_ | refine idxB_at (by decide) rfl ?_ | refine atB_at (by decide) (by decide) ?_ | refine getB_lit _ rfl ?_ | refine z7 ?_); conv => whnf) | trivial)))
  refine frzK ?_
  ((conv => whnf); (repeat (first | ((first | refine z1 ?_ | refine z2 ?_ | refine z3 ?_ | refine idxB_at (by decide) rfl ?_ | refine atB_at (by decide) (by decide) ?_ | refine getB_lit _ rfl ?_ | refine z7 ?_); conv => whnf) | trivial)))
theorem itemC (x : Ent) : PSpec Try.prog 108 [x.v] (Item.v ⟨x.time, x.seq, 0⟩) := by
  refine pspec tab_ok mix Try.func108 (by kernel_rfl) rfl rfl ?_
  ((conv => whnf); (repeat (first | ((first | refine z1 ?_ | refine z2 ?_ | refine z3 ?_ | refine idxB_at (by decide) rfl ?_ | refine atB_at (by decide) (by decide) ?_ | refine getB_lit _ rfl ?_ | refine z7 ?_); conv => whnf) | trivial)))
  exact .same rfl
def cmpEnt (x y : Ent) : Int := or2 (cmpI x.time y.time) (cmpI x.seq y.seq)
theorem compareC (x y : Ent) : PSpec Try.prog 69 [x.v, y.v] (V.int (cmpEnt x y)) := by
  refine pspec tab_ok mix Try.func69 (by kernel_rfl) rfl rfl ?_
  ((conv => whnf); (repeat (first | ((first | refine z1 ?_ | refine z2 ?_ | refine z3 ?_ | refine idxB_at (by decide) rfl ?_ | refine atB_at (by decide) (by decide) ?_ | refine getB_lit _ rfl ?_ | refine z7 ?_); conv => whnf) | trivial)))
  refine dcallB (itemC x) ?_
  ((conv => whnf); (repeat (first | ((first | refine z1 ?_ | refine z2 ?_ | refine z3 ?_ | refine idxB_at (by decide) rfl ?_ | refine atB_at (by decide) (by decide) ?_ | refine getB_lit _ rfl ?_ | refine z7 ?_); conv => whnf) | trivial)))
  refine dcallB (itemC y) ?_
  ((conv => whnf); (repeat (first | ((first | refine z1 ?_ | refine z2 ?_ | refine z3 ?_ | refine idxB_at (by decide) rfl ?_ | refine atB_at (by decide) (by decide) ?_ | refine getB_lit _ rfl ?_ | refine z7 ?_); conv => whnf) | trivial)))
  refine dcallB (compareItems _ _) ?_
  ((conv => whnf); (repeat (first | ((first | refine z1 ?_ | refine z2 ?_ | refine z3 ?_ | refine idxB_at (by decide) rfl ?_ | refine atB_at (by decide) (by decide) ?_ | refine getB_lit _ rfl ?_ | refine z7 ?_); conv => whnf) | trivial)))
  exact .same rfl
theorem hasC (l : List Int) (x : Int) (hl : l.length < 9223372036854775807) : PSpec Try.prog 34 [intsV l, V.int x] (V.bool (decide (x ∈ l))) := by
  refine pspec tab_ok mix Try.func34 (by kernel_rfl) rfl rfl ?_
  ((conv => whnf); (repeat (first | ((first | refine z1 ?_ | refine z2 ?_ | refine z3 ?_ | refine idxB_at (by decide) rfl ?_ | refine atB_at (by decide) (by decide) ?_ | refine getB_lit _ rfl ?_ | refine z7 ?_); conv => whnf) | trivial)))
  refine loopB tab_ok mix [0, 1] [] (fun i : Nat => [(5, V.int i)]) (fun i => []) (fun i => i ≤ l.length ∧ x ∉ l.take i) (fun i => l.length - i) [] 0 rfl ⟨by omega, by simp⟩ (by ((conv => whnf); (repeat (first | ((first | refine z1 ?_ | refine z2 ?_ | refine z3 ?_ | refine idxB_at (by decide) rfl ?_ | refine atB_at (by decide) (by decide) ?_ | refine getB_lit _ rfl ?_ | refine z7 ?_); conv => whnf) | trivial)))) ?_
  rintro i ⟨h1, h2⟩
  ((conv => whnf); (repeat (first | ((first | refine z1 ?_ | refine z2 ?_ | refine z3 ?_ | refine idxB_at (by decide) rfl ?_ | refine atB_at (by decide) (by decide) ?_ | refine getB_lit _ rfl ?_ | refine z7 ?_); conv => whnf) | trivial)))
  refine br_dec (fun g => ?_) (fun g => ?_) <;> ((conv => whnf); (repeat (first | ((first | refine z1 ?_ | refine z2 ?_ | refine z3 ?_ | refine idxB_at (by decide) rfl ?_ | refine atB_at (by decide) (by decide) ?_ | refine getB_lit _ rfl ?_ | refine z7 ?_); conv => whnf) | trivial)))
  · simp at g
    obtain ⟨y, hy⟩ := get_lt g
    refine idxB hy ?_
    ((conv => whnf); (repeat (first | ((first | refine z1 ?_ | refine z2 ?_ | refine z3 ?_ | refine idxB_at (by decide) rfl ?_ | refine atB_at (by decide) (by decide) ?_ | refine getB_lit _ rfl ?_ | refine z7 ?_); conv => whnf) | trivial)))
    refine br_dec (fun e => ?_) (fun e => ?_) <;> ((conv => whnf); (repeat (first | ((first | refine z1 ?_ | refine z2 ?_ | refine z3 ?_ | refine idxB_at (by decide) rfl ?_ | refine atB_at (by decide) (by decide) ?_ | refine getB_lit _ rfl ?_ | refine z7 ?_); conv => whnf) | trivial)))
    · exact .same (by rw [decide_eq_true]; exact e ▸ List.mem_of_getElem? hy)
    · refine .mk [] (i + 1) ⟨by omega, ?_⟩ (by omega) ?_
      · rw [List.take_add_one, hy]
        simp only [Option.toList_some, List.mem_append, List.mem_singleton, h2, false_or]
        exact fun q => e q.symm
      · ((conv => whnf); (repeat (first | ((first | refine z1 ?_ | refine z2 ?_ | refine z3 ?_ | refine idxB_at (by decide) rfl ?_ | refine atB_at (by decide) (by decide) ?_ | refine getB_lit _ rfl ?_ | refine z7 ?_); conv => whnf) | trivial)))
  · have e : i = l.length := by simp at g; omega
    subst e
    rw [List.take_length] at h2
    exact .same (by simp [h2])
end Go.Proofs.Ytmihhkcbbdpnaaa.Abs
