/- Contracts of package evkey: events, insertion sort, children, the references, the law's head. -/
import Derived.Test.YtepepidjefpckaaE1
import Derived.Test.YtepepidjefpckaaC9
namespace Go.Proofs.Ytepepidjefpckaa.Abs
open Go.Proofs
set_option maxRecDepth 10000
set_option linter.unusedSimpArgs false
set_option linter.unusedVariables false

structure Ev where
  time : Int
  key : List Int
  lp : Int
  kind : Int
  proc : Int
  arg : Int
  deriving Inhabited
def Ev.row (x : Ev) : List D := [.c (.int .i64 x.time), .lst 1 (x.key.map intD), .c (.int .i64 x.lp), .c (.int .i64 x.kind), .c (.int .i64 x.proc), .c (.int .i64 x.arg)]
def Ev.v (x : Ev) : V := .agg [V.int x.time, keyV x.key, V.int x.lp, V.int x.kind, V.int x.proc, V.int x.arg]
def cmpEv (x y : Ev) : Int := or2 (cmpI x.time y.time) (cmpK x.key y.key)
theorem compareEvents (x y : Ev) (hx : x.key.length < 9223372036854775807) : PSpec Try.prog 32 [x.v, y.v] (V.int (cmpEv x y)) := by
  refine pspec tab_ok mix Try.func32 (by kernel_rfl) rfl rfl ?_
  ((conv => whnf); (repeat first | (refine wrB (by omega) ?_; conv => whnf) | (refine okB (by kernel_rfl) ?_; conv => whnf) | (refine cb (by first | rfl | omega | (simp; done) | (simp; omega)) ?_; conv => whnf) | (refine idxB_at (by decide) rfl ?_; conv => whnf) | (refine atB_at (by decide) (by decide) ?_; conv => whnf) | (refine getB_lit _ rfl ?_; conv => whnf) | (refine cnd tab_ok mix ?_; conv => whnf) | trivial))
  refine dcallB (compareInt _ _) ?_
  ((conv => whnf); (repeat first | (refine wrB (by omega) ?_; conv => whnf) | (refine okB (by kernel_rfl) ?_; conv => whnf) | (refine cb (by first | rfl | omega | (simp; done) | (simp; omega)) ?_; conv => whnf) | (refine idxB_at (by decide) rfl ?_; conv => whnf) | (refine atB_at (by decide) (by decide) ?_; conv => whnf) | (refine getB_lit _ rfl ?_; conv => whnf) | (refine cnd tab_ok mix ?_; conv => whnf) | trivial))
  refine dcallB (compareKeys x.key y.key hx) ?_
  ((conv => whnf); (repeat first | (refine wrB (by omega) ?_; conv => whnf) | (refine okB (by kernel_rfl) ?_; conv => whnf) | (refine cb (by first | rfl | omega | (simp; done) | (simp; omega)) ?_; conv => whnf) | (refine idxB_at (by decide) rfl ?_; conv => whnf) | (refine atB_at (by decide) (by decide) ?_; conv => whnf) | (refine getB_lit _ rfl ?_; conv => whnf) | (refine cnd tab_ok mix ?_; conv => whnf) | trivial))
  refine dcallB (firstC _ _) ?_
  ((conv => whnf); (repeat first | (refine wrB (by omega) ?_; conv => whnf) | (refine okB (by kernel_rfl) ?_; conv => whnf) | (refine cb (by first | rfl | omega | (simp; done) | (simp; omega)) ?_; conv => whnf) | (refine idxB_at (by decide) rfl ?_; conv => whnf) | (refine atB_at (by decide) (by decide) ?_; conv => whnf) | (refine getB_lit _ rfl ?_; conv => whnf) | (refine cnd tab_ok mix ?_; conv => whnf) | trivial))
  exact .same rfl

/-! ### insertion sort -/
def swapEv (R : List Ev) (j : Nat) : List Ev := (R.set (j + 1) (R.getD j default)).set j (R.getD (j + 1) default)
/-- the element at j is moved down to its place, not below a -/
def sink (a : Nat) : Nat → List Ev → List Ev
  | 0, R => R
  | j + 1, R => if a < j + 1 ∧ cmpEv (R.getD (j + 1) default) (R.getD j default) < 0 then sink a j (swapEv R j) else R
def insFrom (a : Nat) : Nat → Nat → List Ev → List Ev
  | 0, _, R => R
  | n + 1, i, R => insFrom a n (i + 1) (sink a i R)
def keysOk (R : List Ev) : Prop := ∀ x ∈ R, x.key.length < 9223372036854775807
theorem swap_len (R : List Ev) (j : Nat) : (swapEv R j).length = R.length := by simp [swapEv]
theorem keysOk_swap {R : List Ev} {j : Nat} (h : keysOk R) : keysOk (swapEv R j) := by
  have hd : ∀ i, (R.getD i default).key.length < 9223372036854775807 := by
    intro i
    rw [List.getD_eq_getElem?_getD]
    cases hi : R[i]? with
    | none => show (default : Ev).key.length < _; decide
    | some x => exact h x (List.mem_of_getElem? hi)
  intro x hx
  rcases List.mem_or_eq_of_mem_set hx with hx | rfl
  · rcases List.mem_or_eq_of_mem_set hx with hx | rfl
    · exact h x hx
    · exact hd _
  · exact hd _
def cmpF : V := .fn (.func 32) [] []
theorem insertionSort (R : List Ev) (a b : Nat) (hab : a ≤ b) (hb : b ≤ R.length) (hl : R.length < 9223372036854775807) (hk : keysOk R) :
    LSpec Try.prog 58 [.ac 0 6 R.length, V.int a, V.int b, cmpF] [(0, .dat 6 (R.map Ev.row))] 1 (.tup []) [(0, .dat 6 ((insFrom a (b - (a + 1)) (a + 1) R).map Ev.row))] 1 := by
  refine lspec tab_ok mix Try.func58 (by kernel_rfl) (by rfl) (by rfl) (by rfl) (by rfl) ?_
  ((conv => whnf); (repeat first | (refine wrB (by omega) ?_; conv => whnf) | (refine okB (by kernel_rfl) ?_; conv => whnf) | (refine cb (by first | rfl | omega | (simp; done) | (simp; omega)) ?_; conv => whnf) | (refine idxB_at (by decide) rfl ?_; conv => whnf) | (refine atB_at (by decide) (by decide) ?_; conv => whnf) | (refine getB_lit _ rfl ?_; conv => whnf) | (refine cnd tab_ok mix ?_; conv => whnf) | trivial))
  refine loopB2 tab_ok mix [0, 1, 2, 3] [] (fun (i : Nat) (R : List Ev) => [(8, V.int i)]) (fun i R => [(0, .dat 6 (R.map Ev.row))])
    (fun i R1 => a < i ∧ R1.length = R.length ∧ keysOk R1 ∧ insFrom a (b - i) i R1 = insFrom a (b - (a + 1)) (a + 1) R) (fun i R => b - i) [] (a + 1) R rfl ⟨by omega, rfl, hk, rfl⟩ (by ((conv => whnf); (repeat first | (refine wrB (by omega) ?_; conv => whnf) | (refine okB (by kernel_rfl) ?_; conv => whnf) | (refine cb (by first | rfl | omega | (simp; done) | (simp; omega)) ?_; conv => whnf) | (refine idxB_at (by decide) rfl ?_; conv => whnf) | (refine atB_at (by decide) (by decide) ?_; conv => whnf) | (refine getB_lit _ rfl ?_; conv => whnf) | (refine cnd tab_ok mix ?_; conv => whnf) | trivial))) ?_
  rintro i R1 ⟨h1, h3, h4, h5⟩
  ((conv => whnf); (repeat first | (refine wrB (by omega) ?_; conv => whnf) | (refine okB (by kernel_rfl) ?_; conv => whnf) | (refine cb (by first | rfl | omega | (simp; done) | (simp; omega)) ?_; conv => whnf) | (refine idxB_at (by decide) rfl ?_; conv => whnf) | (refine atB_at (by decide) (by decide) ?_; conv => whnf) | (refine getB_lit _ rfl ?_; conv => whnf) | (refine cnd tab_ok mix ?_; conv => whnf) | trivial))
  refine br_dec (fun h => ?_) (fun h => ?_) <;> ((conv => whnf); (repeat first | (refine wrB (by omega) ?_; conv => whnf) | (refine okB (by kernel_rfl) ?_; conv => whnf) | (refine cb (by first | rfl | omega | (simp; done) | (simp; omega)) ?_; conv => whnf) | (refine idxB_at (by decide) rfl ?_; conv => whnf) | (refine atB_at (by decide) (by decide) ?_; conv => whnf) | (refine getB_lit _ rfl ?_; conv => whnf) | (refine cnd tab_ok mix ?_; conv => whnf) | trivial))
  · refine loopB2 tab_ok mix [0, 1, 2, 3, 8] [] (fun (j : Nat) (R : List Ev) => [(9, V.int j)]) (fun j R => [(0, .dat 6 (R.map Ev.row))])
      (fun j R2 => j ≤ i ∧ R2.length = R.length ∧ keysOk R2 ∧ sink a j R2 = sink a i R1) (fun j R => j) [] i R1 rfl ⟨by omega, h3, h4, rfl⟩ (by ((conv => whnf); (repeat first | (refine wrB (by omega) ?_; conv => whnf) | (refine okB (by kernel_rfl) ?_; conv => whnf) | (refine cb (by first | rfl | omega | (simp; done) | (simp; omega)) ?_; conv => whnf) | (refine idxB_at (by decide) rfl ?_; conv => whnf) | (refine atB_at (by decide) (by decide) ?_; conv => whnf) | (refine getB_lit _ rfl ?_; conv => whnf) | (refine cnd tab_ok mix ?_; conv => whnf) | trivial))) ?_
    rintro j R2 ⟨g1, g2, g3, g4⟩
    ((conv => whnf); (repeat first | (refine wrB (by omega) ?_; conv => whnf) | (refine okB (by kernel_rfl) ?_; conv => whnf) | (refine cb (by first | rfl | omega | (simp; done) | (simp; omega)) ?_; conv => whnf) | (refine idxB_at (by decide) rfl ?_; conv => whnf) | (refine atB_at (by decide) (by decide) ?_; conv => whnf) | (refine getB_lit _ rfl ?_; conv => whnf) | (refine cnd tab_ok mix ?_; conv => whnf) | trivial))
    refine br_dec (fun h6 => ?_) (fun h6 => ?_) <;> ((conv => whnf); (repeat first | (refine wrB (by omega) ?_; conv => whnf) | (refine okB (by kernel_rfl) ?_; conv => whnf) | (refine cb (by first | rfl | omega | (simp; done) | (simp; omega)) ?_; conv => whnf) | (refine idxB_at (by decide) rfl ?_; conv => whnf) | (refine atB_at (by decide) (by decide) ?_; conv => whnf) | (refine getB_lit _ rfl ?_; conv => whnf) | (refine cnd tab_ok mix ?_; conv => whnf) | trivial))
    · have jb : j < R.length := by omega
      obtain ⟨m, rfl⟩ : ∃ m, j = m + 1 := ⟨j - 1, by omega⟩
      obtain ⟨x, hx⟩ : ∃ x, R2[m + 1]? = some x := ⟨R2[m + 1], by simp [g2, jb]⟩
      obtain ⟨y, hy⟩ : ∃ y, R2[m]? = some y := ⟨R2[m]'(by omega), by simp⟩
      refine atB_eq (m + 1) rfl (by omega) ?_
      ((conv => whnf); (repeat first | (refine wrB (by omega) ?_; conv => whnf) | (refine okB (by kernel_rfl) ?_; conv => whnf) | (refine cb (by first | rfl | omega | (simp; done) | (simp; omega)) ?_; conv => whnf) | (refine idxB_at (by decide) rfl ?_; conv => whnf) | (refine atB_at (by decide) (by decide) ?_; conv => whnf) | (refine getB_lit _ rfl ?_; conv => whnf) | (refine cnd tab_ok mix ?_; conv => whnf) | trivial))
      refine getB (x := x) (by simpa using hx) ?_
      ((conv => whnf); (repeat first | (refine wrB (by omega) ?_; conv => whnf) | (refine okB (by kernel_rfl) ?_; conv => whnf) | (refine cb (by first | rfl | omega | (simp; done) | (simp; omega)) ?_; conv => whnf) | (refine idxB_at (by decide) rfl ?_; conv => whnf) | (refine atB_at (by decide) (by decide) ?_; conv => whnf) | (refine getB_lit _ rfl ?_; conv => whnf) | (refine cnd tab_ok mix ?_; conv => whnf) | trivial))
      refine atB_eq m (by omega) (by omega) ?_
      ((conv => whnf); (repeat first | (refine wrB (by omega) ?_; conv => whnf) | (refine okB (by kernel_rfl) ?_; conv => whnf) | (refine cb (by first | rfl | omega | (simp; done) | (simp; omega)) ?_; conv => whnf) | (refine idxB_at (by decide) rfl ?_; conv => whnf) | (refine atB_at (by decide) (by decide) ?_; conv => whnf) | (refine getB_lit _ rfl ?_; conv => whnf) | (refine cnd tab_ok mix ?_; conv => whnf) | trivial))
      refine getB (x := y) (by simpa using hy) ?_
      ((conv => whnf); (repeat first | (refine wrB (by omega) ?_; conv => whnf) | (refine okB (by kernel_rfl) ?_; conv => whnf) | (refine cb (by first | rfl | omega | (simp; done) | (simp; omega)) ?_; conv => whnf) | (refine idxB_at (by decide) rfl ?_; conv => whnf) | (refine atB_at (by decide) (by decide) ?_; conv => whnf) | (refine getB_lit _ rfl ?_; conv => whnf) | (refine cnd tab_ok mix ?_; conv => whnf) | trivial))
      refine dcallB (compareEvents x y (g3 x (List.mem_of_getElem? hx))) ?_
      ((conv => whnf); (repeat first | (refine wrB (by omega) ?_; conv => whnf) | (refine okB (by kernel_rfl) ?_; conv => whnf) | (refine cb (by first | rfl | omega | (simp; done) | (simp; omega)) ?_; conv => whnf) | (refine idxB_at (by decide) rfl ?_; conv => whnf) | (refine atB_at (by decide) (by decide) ?_; conv => whnf) | (refine getB_lit _ rfl ?_; conv => whnf) | (refine cnd tab_ok mix ?_; conv => whnf) | trivial))
      have ex : R2.getD (m + 1) default = x := by simp [List.getD_eq_getElem?_getD, hx]
      have ey : R2.getD m default = y := by simp [List.getD_eq_getElem?_getD, hy]
      rw [sink, ex, ey] at g4
      refine br_dec (fun hc => ?_) (fun hc => ?_) <;> ((conv => whnf); (repeat first | (refine wrB (by omega) ?_; conv => whnf) | (refine okB (by kernel_rfl) ?_; conv => whnf) | (refine cb (by first | rfl | omega | (simp; done) | (simp; omega)) ?_; conv => whnf) | (refine idxB_at (by decide) rfl ?_; conv => whnf) | (refine atB_at (by decide) (by decide) ?_; conv => whnf) | (refine getB_lit _ rfl ?_; conv => whnf) | (refine cnd tab_ok mix ?_; conv => whnf) | trivial))
      · refine atB_eq m (by omega) (by omega) ?_
        ((conv => whnf); (repeat first | (refine wrB (by omega) ?_; conv => whnf) | (refine okB (by kernel_rfl) ?_; conv => whnf) | (refine cb (by first | rfl | omega | (simp; done) | (simp; omega)) ?_; conv => whnf) | (refine idxB_at (by decide) rfl ?_; conv => whnf) | (refine atB_at (by decide) (by decide) ?_; conv => whnf) | (refine getB_lit _ rfl ?_; conv => whnf) | (refine cnd tab_ok mix ?_; conv => whnf) | trivial))
        refine getB (x := y) (by simpa using hy) ?_
        ((conv => whnf); (repeat first | (refine wrB (by omega) ?_; conv => whnf) | (refine okB (by kernel_rfl) ?_; conv => whnf) | (refine cb (by first | rfl | omega | (simp; done) | (simp; omega)) ?_; conv => whnf) | (refine idxB_at (by decide) rfl ?_; conv => whnf) | (refine atB_at (by decide) (by decide) ?_; conv => whnf) | (refine getB_lit _ rfl ?_; conv => whnf) | (refine cnd tab_ok mix ?_; conv => whnf) | trivial))
        refine atB_eq (m + 1) rfl (by omega) ?_
        ((conv => whnf); (repeat first | (refine wrB (by omega) ?_; conv => whnf) | (refine okB (by kernel_rfl) ?_; conv => whnf) | (refine cb (by first | rfl | omega | (simp; done) | (simp; omega)) ?_; conv => whnf) | (refine idxB_at (by decide) rfl ?_; conv => whnf) | (refine atB_at (by decide) (by decide) ?_; conv => whnf) | (refine getB_lit _ rfl ?_; conv => whnf) | (refine cnd tab_ok mix ?_; conv => whnf) | trivial))
        refine getB (x := x) (by simpa using hx) ?_
        ((conv => whnf); (repeat first | (refine wrB (by omega) ?_; conv => whnf) | (refine okB (by kernel_rfl) ?_; conv => whnf) | (refine cb (by first | rfl | omega | (simp; done) | (simp; omega)) ?_; conv => whnf) | (refine idxB_at (by decide) rfl ?_; conv => whnf) | (refine atB_at (by decide) (by decide) ?_; conv => whnf) | (refine getB_lit _ rfl ?_; conv => whnf) | (refine cnd tab_ok mix ?_; conv => whnf) | trivial))
        refine atB_eq (m + 1) rfl (by omega) ?_
        ((conv => whnf); (repeat first | (refine wrB (by omega) ?_; conv => whnf) | (refine okB (by kernel_rfl) ?_; conv => whnf) | (refine cb (by first | rfl | omega | (simp; done) | (simp; omega)) ?_; conv => whnf) | (refine idxB_at (by decide) rfl ?_; conv => whnf) | (refine atB_at (by decide) (by decide) ?_; conv => whnf) | (refine getB_lit _ rfl ?_; conv => whnf) | (refine cnd tab_ok mix ?_; conv => whnf) | trivial))
        refine getB (x := x) (by simpa using hx) ?_
        ((conv => whnf); (repeat first | (refine wrB (by omega) ?_; conv => whnf) | (refine okB (by kernel_rfl) ?_; conv => whnf) | (refine cb (by first | rfl | omega | (simp; done) | (simp; omega)) ?_; conv => whnf) | (refine idxB_at (by decide) rfl ?_; conv => whnf) | (refine atB_at (by decide) (by decide) ?_; conv => whnf) | (refine getB_lit _ rfl ?_; conv => whnf) | (refine cnd tab_ok mix ?_; conv => whnf) | trivial))
        refine atB_eq m (by omega) (by omega) ?_
        ((conv => whnf); (repeat first | (refine wrB (by omega) ?_; conv => whnf) | (refine okB (by kernel_rfl) ?_; conv => whnf) | (refine cb (by first | rfl | omega | (simp; done) | (simp; omega)) ?_; conv => whnf) | (refine idxB_at (by decide) rfl ?_; conv => whnf) | (refine atB_at (by decide) (by decide) ?_; conv => whnf) | (refine getB_lit _ rfl ?_; conv => whnf) | (refine cnd tab_ok mix ?_; conv => whnf) | trivial))
        refine getB_lit y.row (by simp [List.getElem?_set, hy]) ?_
        ((conv => whnf); (repeat first | (refine wrB (by omega) ?_; conv => whnf) | (refine okB (by kernel_rfl) ?_; conv => whnf) | (refine cb (by first | rfl | omega | (simp; done) | (simp; omega)) ?_; conv => whnf) | (refine idxB_at (by decide) rfl ?_; conv => whnf) | (refine atB_at (by decide) (by decide) ?_; conv => whnf) | (refine getB_lit _ rfl ?_; conv => whnf) | (refine cnd tab_ok mix ?_; conv => whnf) | trivial))
        rw [if_pos ⟨by omega, hc⟩] at g4
        refine .mk [] m (swapEv R2 m) ⟨by omega, by rw [swap_len]; exact g2, keysOk_swap g3, g4⟩ (by dsimp only; omega) ?_
        ((conv => whnf); (repeat first | (refine wrB (by omega) ?_; conv => whnf) | (refine okB (by kernel_rfl) ?_; conv => whnf) | (refine cb (by first | rfl | omega | (simp; done) | (simp; omega)) ?_; conv => whnf) | (refine idxB_at (by decide) rfl ?_; conv => whnf) | (refine atB_at (by decide) (by decide) ?_; conv => whnf) | (refine getB_lit _ rfl ?_; conv => whnf) | (refine cnd tab_ok mix ?_; conv => whnf) | trivial))
        refine cb ?_ trivial
        rw [swapEv, ex, ey, List.map_set, List.map_set]
        rfl
      · refine .mk [] (i + 1) R2 ⟨by omega, g2, g3, ?_⟩ (by dsimp only; omega) ?_
        · rw [if_neg (fun h => hc h.2)] at g4
          rw [show b - i = (b - (i + 1)) + 1 by omega, insFrom, ← g4] at h5
          exact h5
        · ((conv => whnf); (repeat first | (refine wrB (by omega) ?_; conv => whnf) | (refine okB (by kernel_rfl) ?_; conv => whnf) | (refine cb (by first | rfl | omega | (simp; done) | (simp; omega)) ?_; conv => whnf) | (refine idxB_at (by decide) rfl ?_; conv => whnf) | (refine atB_at (by decide) (by decide) ?_; conv => whnf) | (refine getB_lit _ rfl ?_; conv => whnf) | (refine cnd tab_ok mix ?_; conv => whnf) | trivial))
    · refine .mk [] (i + 1) R2 ⟨by omega, g2, g3, ?_⟩ (by dsimp only; omega) ?_
      · have g4' : R2 = sink a i R1 := by
          rw [← g4]
          cases j with
          | zero => rfl
          | succ m => rw [sink, if_neg (fun h => h6 (by omega))]
        rw [show b - i = (b - (i + 1)) + 1 by omega, insFrom, ← g4'] at h5
        exact h5
      · ((conv => whnf); (repeat first | (refine wrB (by omega) ?_; conv => whnf) | (refine okB (by kernel_rfl) ?_; conv => whnf) | (refine cb (by first | rfl | omega | (simp; done) | (simp; omega)) ?_; conv => whnf) | (refine idxB_at (by decide) rfl ?_; conv => whnf) | (refine atB_at (by decide) (by decide) ?_; conv => whnf) | (refine getB_lit _ rfl ?_; conv => whnf) | (refine cnd tab_ok mix ?_; conv => whnf) | trivial))
  · rw [show b - i = 0 by omega, insFrom] at h5
    refine .mk [] ?_
    ((conv => whnf); (repeat first | (refine wrB (by omega) ?_; conv => whnf) | (refine okB (by kernel_rfl) ?_; conv => whnf) | (refine cb (by first | rfl | omega | (simp; done) | (simp; omega)) ?_; conv => whnf) | (refine idxB_at (by decide) rfl ?_; conv => whnf) | (refine atB_at (by decide) (by decide) ?_; conv => whnf) | (refine getB_lit _ rfl ?_; conv => whnf) | (refine cnd tab_ok mix ?_; conv => whnf) | trivial))
    rw [h5]
    exact cb rfl trivial

def isort (R : List Ev) : List Ev := insFrom 0 (R.length - 1) 1 R
theorem sink_len (a : Nat) : ∀ (j : Nat) (R : List Ev), (sink a j R).length = R.length
  | 0, R => rfl
  | j + 1, R => by
    rw [sink]
    split
    · rw [sink_len a j, swap_len]
    · rfl
theorem insFrom_len (a : Nat) : ∀ (n i : Nat) (R : List Ev), (insFrom a n i R).length = R.length
  | 0, i, R => rfl
  | n + 1, i, R => by rw [insFrom, insFrom_len a n, sink_len]
theorem stableSmall (R : List Ev) (hl : R.length < 20) (hk : keysOk R) :
    LSpec Try.prog 57 [.ac 0 6 R.length, V.int R.length, cmpF] [(0, .dat 6 (R.map Ev.row))] 1 (.tup []) [(0, .dat 6 ((isort R).map Ev.row))] 1 := by
  refine lspec tab_ok mix Try.func57 (by kernel_rfl) (by rfl) (by rfl) (by rfl) (by rfl) ?_
  ((conv => whnf); (repeat first | (refine wrB (by omega) ?_; conv => whnf) | (refine okB (by kernel_rfl) ?_; conv => whnf) | (refine cb (by first | rfl | omega | (simp; done) | (simp; omega)) ?_; conv => whnf) | (refine idxB_at (by decide) rfl ?_; conv => whnf) | (refine atB_at (by decide) (by decide) ?_; conv => whnf) | (refine getB_lit _ rfl ?_; conv => whnf) | (refine cnd tab_ok mix ?_; conv => whnf) | trivial))
  refine loopB_rounds tab_ok mix 1 (by decide) ?_
  ((conv => whnf); (repeat first | (refine wrB (by omega) ?_; conv => whnf) | (refine okB (by kernel_rfl) ?_; conv => whnf) | (refine cb (by first | rfl | omega | (simp; done) | (simp; omega)) ?_; conv => whnf) | (refine idxB_at (by decide) rfl ?_; conv => whnf) | (refine atB_at (by decide) (by decide) ?_; conv => whnf) | (refine getB_lit _ rfl ?_; conv => whnf) | (refine cnd tab_ok mix ?_; conv => whnf) | trivial))
  refine br_no (by simp; omega) ?_
  ((conv => whnf); (repeat first | (refine wrB (by omega) ?_; conv => whnf) | (refine okB (by kernel_rfl) ?_; conv => whnf) | (refine cb (by first | rfl | omega | (simp; done) | (simp; omega)) ?_; conv => whnf) | (refine idxB_at (by decide) rfl ?_; conv => whnf) | (refine atB_at (by decide) (by decide) ?_; conv => whnf) | (refine getB_lit _ rfl ?_; conv => whnf) | (refine cnd tab_ok mix ?_; conv => whnf) | trivial))
  refine callL (insertionSort R 0 R.length (Nat.zero_le _) (Nat.le_refl _) (by omega) hk) [some 0] [] rfl ?_
  ((conv => whnf); (repeat first | (refine wrB (by omega) ?_; conv => whnf) | (refine okB (by kernel_rfl) ?_; conv => whnf) | (refine cb (by first | rfl | omega | (simp; done) | (simp; omega)) ?_; conv => whnf) | (refine idxB_at (by decide) rfl ?_; conv => whnf) | (refine atB_at (by decide) (by decide) ?_; conv => whnf) | (refine getB_lit _ rfl ?_; conv => whnf) | (refine cnd tab_ok mix ?_; conv => whnf) | trivial))
  refine loopB_rounds tab_ok mix 1 (by decide) ?_
  ((conv => whnf); (repeat first | (refine wrB (by omega) ?_; conv => whnf) | (refine okB (by kernel_rfl) ?_; conv => whnf) | (refine cb (by first | rfl | omega | (simp; done) | (simp; omega)) ?_; conv => whnf) | (refine idxB_at (by decide) rfl ?_; conv => whnf) | (refine atB_at (by decide) (by decide) ?_; conv => whnf) | (refine getB_lit _ rfl ?_; conv => whnf) | (refine cnd tab_ok mix ?_; conv => whnf) | trivial))
  refine br_no (by simp; omega) ?_
  ((conv => whnf); (repeat first | (refine wrB (by omega) ?_; conv => whnf) | (refine okB (by kernel_rfl) ?_; conv => whnf) | (refine cb (by first | rfl | omega | (simp; done) | (simp; omega)) ?_; conv => whnf) | (refine idxB_at (by decide) rfl ?_; conv => whnf) | (refine atB_at (by decide) (by decide) ?_; conv => whnf) | (refine getB_lit _ rfl ?_; conv => whnf) | (refine cnd tab_ok mix ?_; conv => whnf) | trivial))
  refine .mk [] ?_
  ((conv => whnf); (repeat first | (refine wrB (by omega) ?_; conv => whnf) | (refine okB (by kernel_rfl) ?_; conv => whnf) | (refine cb (by first | rfl | omega | (simp; done) | (simp; omega)) ?_; conv => whnf) | (refine idxB_at (by decide) rfl ?_; conv => whnf) | (refine atB_at (by decide) (by decide) ?_; conv => whnf) | (refine getB_lit _ rfl ?_; conv => whnf) | (refine cnd tab_ok mix ?_; conv => whnf) | trivial))
theorem sortStable (R : List Ev) (hl : R.length < 20) (hk : keysOk R) :
    LSpec Try.prog 54 [.ac 0 6 R.length, cmpF] [(0, .dat 6 (R.map Ev.row))] 1 (.tup []) [(0, .dat 6 ((isort R).map Ev.row))] 1 := by
  refine lspec tab_ok mix Try.func54 (by kernel_rfl) (by rfl) (by rfl) (by rfl) (by rfl) ?_
  ((conv => whnf); (repeat first | (refine wrB (by omega) ?_; conv => whnf) | (refine okB (by kernel_rfl) ?_; conv => whnf) | (refine cb (by first | rfl | omega | (simp; done) | (simp; omega)) ?_; conv => whnf) | (refine idxB_at (by decide) rfl ?_; conv => whnf) | (refine atB_at (by decide) (by decide) ?_; conv => whnf) | (refine getB_lit _ rfl ?_; conv => whnf) | (refine cnd tab_ok mix ?_; conv => whnf) | trivial))
  refine callL (stableSmall R hl hk) [some 0] [] rfl ?_
  ((conv => whnf); (repeat first | (refine wrB (by omega) ?_; conv => whnf) | (refine okB (by kernel_rfl) ?_; conv => whnf) | (refine cb (by first | rfl | omega | (simp; done) | (simp; omega)) ?_; conv => whnf) | (refine idxB_at (by decide) rfl ?_; conv => whnf) | (refine atB_at (by decide) (by decide) ?_; conv => whnf) | (refine getB_lit _ rfl ?_; conv => whnf) | (refine cnd tab_ok mix ?_; conv => whnf) | trivial))
  refine .mk [] ?_
  ((conv => whnf); (repeat first | (refine wrB (by omega) ?_; conv => whnf) | (refine okB (by kernel_rfl) ?_; conv => whnf) | (refine cb (by first | rfl | omega | (simp; done) | (simp; omega)) ?_; conv => whnf) | (refine idxB_at (by decide) rfl ?_; conv => whnf) | (refine atB_at (by decide) (by decide) ?_; conv => whnf) | (refine getB_lit _ rfl ?_; conv => whnf) | (refine cnd tab_ok mix ?_; conv => whnf) | trivial))
/-- events as data -/
def evsV (R : List Ev) : V := .lst 6 (R.map Ev.row) false
theorem cloneEvs (R : List Ev) (hl : R.length < 2147483648) :
    LSpec Try.prog 53 [evsV R] [] 0 (.ac 0 6 R.length) [(0, .dat 6 (R.map Ev.row))] 1 := by
  refine lspec tab_ok mix Try.func53 (by kernel_rfl) (by rfl) (by rfl) (by rfl) (by rfl) ?_
  ((conv => whnf); (repeat first | (refine wrB (by omega) ?_; conv => whnf) | (refine okB (by kernel_rfl) ?_; conv => whnf) | (refine cb (by first | rfl | omega | (simp; done) | (simp; omega)) ?_; conv => whnf) | (refine idxB_at (by decide) rfl ?_; conv => whnf) | (refine atB_at (by decide) (by decide) ?_; conv => whnf) | (refine getB_lit _ rfl ?_; conv => whnf) | (refine cnd tab_ok mix ?_; conv => whnf) | trivial))
  refine nilB ?_ (fun h => ?_) <;> ((conv => whnf); (repeat first | (refine wrB (by omega) ?_; conv => whnf) | (refine okB (by kernel_rfl) ?_; conv => whnf) | (refine cb (by first | rfl | omega | (simp; done) | (simp; omega)) ?_; conv => whnf) | (refine idxB_at (by decide) rfl ?_; conv => whnf) | (refine atB_at (by decide) (by decide) ?_; conv => whnf) | (refine getB_lit _ rfl ?_; conv => whnf) | (refine cnd tab_ok mix ?_; conv => whnf) | trivial))
  · refine .mk [(0, 384)] ?_
    ((conv => whnf); (repeat first | (refine wrB (by omega) ?_; conv => whnf) | (refine okB (by kernel_rfl) ?_; conv => whnf) | (refine cb (by first | rfl | omega | (simp; done) | (simp; omega)) ?_; conv => whnf) | (refine idxB_at (by decide) rfl ?_; conv => whnf) | (refine atB_at (by decide) (by decide) ?_; conv => whnf) | (refine getB_lit _ rfl ?_; conv => whnf) | (refine cnd tab_ok mix ?_; conv => whnf) | trivial))
  · refine .mk [] ?_
    ((conv => whnf); (repeat first | (refine wrB (by omega) ?_; conv => whnf) | (refine okB (by kernel_rfl) ?_; conv => whnf) | (refine cb (by first | rfl | omega | (simp; done) | (simp; omega)) ?_; conv => whnf) | (refine idxB_at (by decide) rfl ?_; conv => whnf) | (refine atB_at (by decide) (by decide) ?_; conv => whnf) | (refine getB_lit _ rfl ?_; conv => whnf) | (refine cnd tab_ok mix ?_; conv => whnf) | trivial))
    refine cb (by simpa using h) ?_
    ((conv => whnf); (repeat first | (refine wrB (by omega) ?_; conv => whnf) | (refine okB (by kernel_rfl) ?_; conv => whnf) | (refine cb (by first | rfl | omega | (simp; done) | (simp; omega)) ?_; conv => whnf) | (refine idxB_at (by decide) rfl ?_; conv => whnf) | (refine atB_at (by decide) (by decide) ?_; conv => whnf) | (refine getB_lit _ rfl ?_; conv => whnf) | (refine cnd tab_ok mix ?_; conv => whnf) | trivial))
theorem sortEvents (R : List Ev) (hl : R.length < 20) (hk : keysOk R) :
    LSpec Try.prog 42 [evsV R] [] 0 (.ac 0 6 R.length) [(0, .dat 6 ((isort R).map Ev.row))] 1 := by
  refine lspec tab_ok mix Try.func42 (by kernel_rfl) (by rfl) (by rfl) (by rfl) (by rfl) ?_
  ((conv => whnf); (repeat first | (refine wrB (by omega) ?_; conv => whnf) | (refine okB (by kernel_rfl) ?_; conv => whnf) | (refine cb (by first | rfl | omega | (simp; done) | (simp; omega)) ?_; conv => whnf) | (refine idxB_at (by decide) rfl ?_; conv => whnf) | (refine atB_at (by decide) (by decide) ?_; conv => whnf) | (refine getB_lit _ rfl ?_; conv => whnf) | (refine cnd tab_ok mix ?_; conv => whnf) | trivial))
  refine callL (cloneEvs R (by omega)) [] [] rfl ?_
  ((conv => whnf); (repeat first | (refine wrB (by omega) ?_; conv => whnf) | (refine okB (by kernel_rfl) ?_; conv => whnf) | (refine cb (by first | rfl | omega | (simp; done) | (simp; omega)) ?_; conv => whnf) | (refine idxB_at (by decide) rfl ?_; conv => whnf) | (refine atB_at (by decide) (by decide) ?_; conv => whnf) | (refine getB_lit _ rfl ?_; conv => whnf) | (refine cnd tab_ok mix ?_; conv => whnf) | trivial))
  refine callL (sortStable R hl hk) [some 192] [] rfl ?_
  ((conv => whnf); (repeat first | (refine wrB (by omega) ?_; conv => whnf) | (refine okB (by kernel_rfl) ?_; conv => whnf) | (refine cb (by first | rfl | omega | (simp; done) | (simp; omega)) ?_; conv => whnf) | (refine idxB_at (by decide) rfl ?_; conv => whnf) | (refine atB_at (by decide) (by decide) ?_; conv => whnf) | (refine getB_lit _ rfl ?_; conv => whnf) | (refine cnd tab_ok mix ?_; conv => whnf) | trivial))
  refine .mk [(0, 192)] ?_
  ((conv => whnf); (repeat first | (refine wrB (by omega) ?_; conv => whnf) | (refine okB (by kernel_rfl) ?_; conv => whnf) | (refine cb (by first | rfl | omega | (simp; done) | (simp; omega)) ?_; conv => whnf) | (refine idxB_at (by decide) rfl ?_; conv => whnf) | (refine atB_at (by decide) (by decide) ?_; conv => whnf) | (refine getB_lit _ rfl ?_; conv => whnf) | (refine cnd tab_ok mix ?_; conv => whnf) | trivial))
theorem cloneKey (a : List Int) (hl : a.length < 2147483648) :
    LSpec Try.prog 52 [keyV a] [] 0 (.ac 0 1 a.length) [(0, .dat 1 (a.map intD))] 1 := by
  refine lspec tab_ok mix Try.func52 (by kernel_rfl) (by rfl) (by rfl) (by rfl) (by rfl) ?_
  ((conv => whnf); (repeat first | (refine wrB (by omega) ?_; conv => whnf) | (refine okB (by kernel_rfl) ?_; conv => whnf) | (refine cb (by first | rfl | omega | (simp; done) | (simp; omega)) ?_; conv => whnf) | (refine idxB_at (by decide) rfl ?_; conv => whnf) | (refine atB_at (by decide) (by decide) ?_; conv => whnf) | (refine getB_lit _ rfl ?_; conv => whnf) | (refine cnd tab_ok mix ?_; conv => whnf) | trivial))
  refine nilB ?_ (fun h => ?_) <;> ((conv => whnf); (repeat first | (refine wrB (by omega) ?_; conv => whnf) | (refine okB (by kernel_rfl) ?_; conv => whnf) | (refine cb (by first | rfl | omega | (simp; done) | (simp; omega)) ?_; conv => whnf) | (refine idxB_at (by decide) rfl ?_; conv => whnf) | (refine atB_at (by decide) (by decide) ?_; conv => whnf) | (refine getB_lit _ rfl ?_; conv => whnf) | (refine cnd tab_ok mix ?_; conv => whnf) | trivial))
  · refine .mk [(0, 384)] ?_
    ((conv => whnf); (repeat first | (refine wrB (by omega) ?_; conv => whnf) | (refine okB (by kernel_rfl) ?_; conv => whnf) | (refine cb (by first | rfl | omega | (simp; done) | (simp; omega)) ?_; conv => whnf) | (refine idxB_at (by decide) rfl ?_; conv => whnf) | (refine atB_at (by decide) (by decide) ?_; conv => whnf) | (refine getB_lit _ rfl ?_; conv => whnf) | (refine cnd tab_ok mix ?_; conv => whnf) | trivial))
  · refine .mk [] ?_
    ((conv => whnf); (repeat first | (refine wrB (by omega) ?_; conv => whnf) | (refine okB (by kernel_rfl) ?_; conv => whnf) | (refine cb (by first | rfl | omega | (simp; done) | (simp; omega)) ?_; conv => whnf) | (refine idxB_at (by decide) rfl ?_; conv => whnf) | (refine atB_at (by decide) (by decide) ?_; conv => whnf) | (refine getB_lit _ rfl ?_; conv => whnf) | (refine cnd tab_ok mix ?_; conv => whnf) | trivial))
    refine cb (by simpa using h) ?_
    ((conv => whnf); (repeat first | (refine wrB (by omega) ?_; conv => whnf) | (refine okB (by kernel_rfl) ?_; conv => whnf) | (refine cb (by first | rfl | omega | (simp; done) | (simp; omega)) ?_; conv => whnf) | (refine idxB_at (by decide) rfl ?_; conv => whnf) | (refine atB_at (by decide) (by decide) ?_; conv => whnf) | (refine getB_lit _ rfl ?_; conv => whnf) | (refine cnd tab_ok mix ?_; conv => whnf) | trivial))
theorem child (a : List Int) (i : Int) (hl : a.length < 2147483647) : PSpecN Try.prog 39 [keyV a, V.int i] (keyV (a ++ [i])) := by
  refine pspecN tab_ok mix Try.func39 (by kernel_rfl) rfl rfl ?_
  ((conv => whnf); (repeat first | (refine wrB (by omega) ?_; conv => whnf) | (refine okB (by kernel_rfl) ?_; conv => whnf) | (refine cb (by first | rfl | omega | (simp; done) | (simp; omega)) ?_; conv => whnf) | (refine idxB_at (by decide) rfl ?_; conv => whnf) | (refine atB_at (by decide) (by decide) ?_; conv => whnf) | (refine getB_lit _ rfl ?_; conv => whnf) | (refine cnd tab_ok mix ?_; conv => whnf) | trivial))
  refine callL (cloneKey a (by omega)) [] [] rfl ?_
  ((conv => whnf); (repeat first | (refine wrB (by omega) ?_; conv => whnf) | (refine okB (by kernel_rfl) ?_; conv => whnf) | (refine cb (by first | rfl | omega | (simp; done) | (simp; omega)) ?_; conv => whnf) | (refine idxB_at (by decide) rfl ?_; conv => whnf) | (refine atB_at (by decide) (by decide) ?_; conv => whnf) | (refine getB_lit _ rfl ?_; conv => whnf) | (refine cnd tab_ok mix ?_; conv => whnf) | trivial))
  refine .frz (.ac _ _ _ ((a ++ [i]).map intD) ?_ (by simp) ?_)
  · rw [List.map_append]; rfl
  · intro row hr
    obtain ⟨x, _, rfl⟩ := List.mem_map.1 hr
    rfl

theorem cmpI_zero {a b : Int} : cmpI a b = 0 ↔ a = b := by
  unfold cmpI
  constructor
  · intro h
    split at h
    · omega
    · split at h <;> omega
  · intro h
    rw [if_neg (by omega), if_neg (by omega)]
theorem refCompare (a b : Int) : PSpec Try.prog 44 [V.int a, V.int b] (V.int (cmpI a b)) := by
  refine pspec tab_ok mix Try.func44 (by kernel_rfl) rfl rfl ?_
  ((conv => whnf); (repeat first | (refine wrB (by omega) ?_; conv => whnf) | (refine okB (by kernel_rfl) ?_; conv => whnf) | (refine cb (by first | rfl | omega | (simp; done) | (simp; omega)) ?_; conv => whnf) | (refine idxB_at (by decide) rfl ?_; conv => whnf) | (refine atB_at (by decide) (by decide) ?_; conv => whnf) | (refine getB_lit _ rfl ?_; conv => whnf) | (refine cnd tab_ok mix ?_; conv => whnf) | trivial))
  refine br_dec (fun h => ?_) (fun h => ?_) <;> ((conv => whnf); (repeat first | (refine wrB (by omega) ?_; conv => whnf) | (refine okB (by kernel_rfl) ?_; conv => whnf) | (refine cb (by first | rfl | omega | (simp; done) | (simp; omega)) ?_; conv => whnf) | (refine idxB_at (by decide) rfl ?_; conv => whnf) | (refine atB_at (by decide) (by decide) ?_; conv => whnf) | (refine getB_lit _ rfl ?_; conv => whnf) | (refine cnd tab_ok mix ?_; conv => whnf) | trivial))
  · exact .same (by simp [cmpI, h])
  · refine br_dec (fun g => ?_) (fun g => ?_) <;> ((conv => whnf); (repeat first | (refine wrB (by omega) ?_; conv => whnf) | (refine okB (by kernel_rfl) ?_; conv => whnf) | (refine cb (by first | rfl | omega | (simp; done) | (simp; omega)) ?_; conv => whnf) | (refine idxB_at (by decide) rfl ?_; conv => whnf) | (refine atB_at (by decide) (by decide) ?_; conv => whnf) | (refine getB_lit _ rfl ?_; conv => whnf) | (refine cnd tab_ok mix ?_; conv => whnf) | trivial))
    · exact .same (by simp [cmpI, h, g])
    · exact .same (by simp [cmpI, h, g])
theorem refCompareKeys (a b : List Int) (hla : a.length < 9223372036854775807) : PSpec Try.prog 37 [keyV a, keyV b] (V.int (cmpK a b)) := by
  refine pspec tab_ok mix Try.func37 (by kernel_rfl) rfl rfl ?_
  ((conv => whnf); (repeat first | (refine wrB (by omega) ?_; conv => whnf) | (refine okB (by kernel_rfl) ?_; conv => whnf) | (refine cb (by first | rfl | omega | (simp; done) | (simp; omega)) ?_; conv => whnf) | (refine idxB_at (by decide) rfl ?_; conv => whnf) | (refine atB_at (by decide) (by decide) ?_; conv => whnf) | (refine getB_lit _ rfl ?_; conv => whnf) | (refine cnd tab_ok mix ?_; conv => whnf) | trivial))
  refine loopB tab_ok mix [0, 1, 4] [] (fun i : Nat => [(5, V.int i)]) (fun i => []) (fun i => i ≤ a.length ∧ i ≤ b.length ∧ cmpK a b = cmpK (a.drop i) (b.drop i)) (fun i => a.length - i) [] 0 rfl ⟨by omega, by omega, rfl⟩ (by ((conv => whnf); (repeat first | (refine wrB (by omega) ?_; conv => whnf) | (refine okB (by kernel_rfl) ?_; conv => whnf) | (refine cb (by first | rfl | omega | (simp; done) | (simp; omega)) ?_; conv => whnf) | (refine idxB_at (by decide) rfl ?_; conv => whnf) | (refine atB_at (by decide) (by decide) ?_; conv => whnf) | (refine getB_lit _ rfl ?_; conv => whnf) | (refine cnd tab_ok mix ?_; conv => whnf) | trivial))) ?_
  rintro i ⟨h1, h2, h3⟩
  have fin : ¬ (i < a.length ∧ i < b.length) → cmpI a.length b.length = cmpK a b := by
    intro hn
    rw [h3]
    by_cases e1 : i < a.length
    · have e2 : b.length = i := by omega
      rw [drop_get (show a[i]? = some a[i] by simp [e1]), List.drop_eq_nil_of_le (by omega : b.length ≤ i), cmpK, cmpI, if_neg (by omega), if_pos (by omega)]
    · rw [List.drop_eq_nil_of_le (by omega : a.length ≤ i)]
      by_cases e2 : i < b.length
      · rw [drop_get (show b[i]? = some b[i] by simp [e2]), cmpK, cmpI, if_pos (by omega)]
      · rw [List.drop_eq_nil_of_le (by omega : b.length ≤ i), cmpK, cmpI, if_neg (by omega), if_neg (by omega)]
  ((conv => whnf); (repeat first | (refine wrB (by omega) ?_; conv => whnf) | (refine okB (by kernel_rfl) ?_; conv => whnf) | (refine cb (by first | rfl | omega | (simp; done) | (simp; omega)) ?_; conv => whnf) | (refine idxB_at (by decide) rfl ?_; conv => whnf) | (refine atB_at (by decide) (by decide) ?_; conv => whnf) | (refine getB_lit _ rfl ?_; conv => whnf) | (refine cnd tab_ok mix ?_; conv => whnf) | trivial))
  refine br_dec (fun h => ?_) (fun h => ?_) <;> ((conv => whnf); (repeat first | (refine wrB (by omega) ?_; conv => whnf) | (refine okB (by kernel_rfl) ?_; conv => whnf) | (refine cb (by first | rfl | omega | (simp; done) | (simp; omega)) ?_; conv => whnf) | (refine idxB_at (by decide) rfl ?_; conv => whnf) | (refine atB_at (by decide) (by decide) ?_; conv => whnf) | (refine getB_lit _ rfl ?_; conv => whnf) | (refine cnd tab_ok mix ?_; conv => whnf) | trivial))
  · simp at h
    refine br_dec (fun g => ?_) (fun g => ?_) <;> ((conv => whnf); (repeat first | (refine wrB (by omega) ?_; conv => whnf) | (refine okB (by kernel_rfl) ?_; conv => whnf) | (refine cb (by first | rfl | omega | (simp; done) | (simp; omega)) ?_; conv => whnf) | (refine idxB_at (by decide) rfl ?_; conv => whnf) | (refine atB_at (by decide) (by decide) ?_; conv => whnf) | (refine getB_lit _ rfl ?_; conv => whnf) | (refine cnd tab_ok mix ?_; conv => whnf) | trivial))
    · simp at g
      obtain ⟨x, hx⟩ := get_lt h
      obtain ⟨y, hy⟩ := get_lt g
      rw [drop_get hx, drop_get hy, cmpK] at h3
      refine idxB hx ?_
      ((conv => whnf); (repeat first | (refine wrB (by omega) ?_; conv => whnf) | (refine okB (by kernel_rfl) ?_; conv => whnf) | (refine cb (by first | rfl | omega | (simp; done) | (simp; omega)) ?_; conv => whnf) | (refine idxB_at (by decide) rfl ?_; conv => whnf) | (refine atB_at (by decide) (by decide) ?_; conv => whnf) | (refine getB_lit _ rfl ?_; conv => whnf) | (refine cnd tab_ok mix ?_; conv => whnf) | trivial))
      refine idxB hy ?_
      ((conv => whnf); (repeat first | (refine wrB (by omega) ?_; conv => whnf) | (refine okB (by kernel_rfl) ?_; conv => whnf) | (refine cb (by first | rfl | omega | (simp; done) | (simp; omega)) ?_; conv => whnf) | (refine idxB_at (by decide) rfl ?_; conv => whnf) | (refine atB_at (by decide) (by decide) ?_; conv => whnf) | (refine getB_lit _ rfl ?_; conv => whnf) | (refine cnd tab_ok mix ?_; conv => whnf) | trivial))
      refine br_ndec (fun e => ?_) (fun e => ?_) <;> ((conv => whnf); (repeat first | (refine wrB (by omega) ?_; conv => whnf) | (refine okB (by kernel_rfl) ?_; conv => whnf) | (refine cb (by first | rfl | omega | (simp; done) | (simp; omega)) ?_; conv => whnf) | (refine idxB_at (by decide) rfl ?_; conv => whnf) | (refine atB_at (by decide) (by decide) ?_; conv => whnf) | (refine getB_lit _ rfl ?_; conv => whnf) | (refine cnd tab_ok mix ?_; conv => whnf) | trivial))
      · refine idxB hx ?_
        ((conv => whnf); (repeat first | (refine wrB (by omega) ?_; conv => whnf) | (refine okB (by kernel_rfl) ?_; conv => whnf) | (refine cb (by first | rfl | omega | (simp; done) | (simp; omega)) ?_; conv => whnf) | (refine idxB_at (by decide) rfl ?_; conv => whnf) | (refine atB_at (by decide) (by decide) ?_; conv => whnf) | (refine getB_lit _ rfl ?_; conv => whnf) | (refine cnd tab_ok mix ?_; conv => whnf) | trivial))
        refine idxB hy ?_
        ((conv => whnf); (repeat first | (refine wrB (by omega) ?_; conv => whnf) | (refine okB (by kernel_rfl) ?_; conv => whnf) | (refine cb (by first | rfl | omega | (simp; done) | (simp; omega)) ?_; conv => whnf) | (refine idxB_at (by decide) rfl ?_; conv => whnf) | (refine atB_at (by decide) (by decide) ?_; conv => whnf) | (refine getB_lit _ rfl ?_; conv => whnf) | (refine cnd tab_ok mix ?_; conv => whnf) | trivial))
        refine dcallB (refCompare x y) ?_
        ((conv => whnf); (repeat first | (refine wrB (by omega) ?_; conv => whnf) | (refine okB (by kernel_rfl) ?_; conv => whnf) | (refine cb (by first | rfl | omega | (simp; done) | (simp; omega)) ?_; conv => whnf) | (refine idxB_at (by decide) rfl ?_; conv => whnf) | (refine atB_at (by decide) (by decide) ?_; conv => whnf) | (refine getB_lit _ rfl ?_; conv => whnf) | (refine cnd tab_ok mix ?_; conv => whnf) | trivial))
        refine .same ?_
        rw [h3, if_neg (fun z => e (cmpI_zero.1 z))]
      · rw [if_pos (cmpI_zero.2 e)] at h3
        refine .mk [] (i + 1) ⟨by omega, by omega, h3⟩ (by omega) ?_
        ((conv => whnf); (repeat first | (refine wrB (by omega) ?_; conv => whnf) | (refine okB (by kernel_rfl) ?_; conv => whnf) | (refine cb (by first | rfl | omega | (simp; done) | (simp; omega)) ?_; conv => whnf) | (refine idxB_at (by decide) rfl ?_; conv => whnf) | (refine atB_at (by decide) (by decide) ?_; conv => whnf) | (refine getB_lit _ rfl ?_; conv => whnf) | (refine cnd tab_ok mix ?_; conv => whnf) | trivial))
    · simp at g
      refine callB (refCompare _ _) ?_
      ((conv => whnf); (repeat first | (refine wrB (by omega) ?_; conv => whnf) | (refine okB (by kernel_rfl) ?_; conv => whnf) | (refine cb (by first | rfl | omega | (simp; done) | (simp; omega)) ?_; conv => whnf) | (refine idxB_at (by decide) rfl ?_; conv => whnf) | (refine atB_at (by decide) (by decide) ?_; conv => whnf) | (refine getB_lit _ rfl ?_; conv => whnf) | (refine cnd tab_ok mix ?_; conv => whnf) | trivial))
      refine .same ?_
      simp only [List.length_map]
      rw [fin (by omega)]
  · simp at h
    refine callB (refCompare _ _) ?_
    ((conv => whnf); (repeat first | (refine wrB (by omega) ?_; conv => whnf) | (refine okB (by kernel_rfl) ?_; conv => whnf) | (refine cb (by first | rfl | omega | (simp; done) | (simp; omega)) ?_; conv => whnf) | (refine idxB_at (by decide) rfl ?_; conv => whnf) | (refine atB_at (by decide) (by decide) ?_; conv => whnf) | (refine getB_lit _ rfl ?_; conv => whnf) | (refine cnd tab_ok mix ?_; conv => whnf) | trivial))
    refine .same ?_
    simp only [List.length_map]
    rw [fin (by omega)]
theorem sameKey (a b : List Int) (hla : a.length < 9223372036854775807) : PSpec Try.prog 38 [keyV a, keyV b] (V.bool (decide (cmpK a b = 0))) := by
  refine pspec tab_ok mix Try.func38 (by kernel_rfl) rfl rfl ?_
  ((conv => whnf); (repeat first | (refine wrB (by omega) ?_; conv => whnf) | (refine okB (by kernel_rfl) ?_; conv => whnf) | (refine cb (by first | rfl | omega | (simp; done) | (simp; omega)) ?_; conv => whnf) | (refine idxB_at (by decide) rfl ?_; conv => whnf) | (refine atB_at (by decide) (by decide) ?_; conv => whnf) | (refine getB_lit _ rfl ?_; conv => whnf) | (refine cnd tab_ok mix ?_; conv => whnf) | trivial))
  refine callB (refCompareKeys a b hla) ?_
  ((conv => whnf); (repeat first | (refine wrB (by omega) ?_; conv => whnf) | (refine okB (by kernel_rfl) ?_; conv => whnf) | (refine cb (by first | rfl | omega | (simp; done) | (simp; omega)) ?_; conv => whnf) | (refine idxB_at (by decide) rfl ?_; conv => whnf) | (refine atB_at (by decide) (by decide) ?_; conv => whnf) | (refine getB_lit _ rfl ?_; conv => whnf) | (refine cnd tab_ok mix ?_; conv => whnf) | trivial))
  exact .same rfl

/-! ### the head -/
def head3 : List Ev := [⟨2, [0], 0, 0, 0, 0⟩, ⟨1, [1, 0], 0, 0, 0, 0⟩, ⟨1, [1], 0, 0, 0, 0⟩]
def head3s : List Ev := [⟨1, [1], 0, 0, 0, 0⟩, ⟨1, [1, 0], 0, 0, 0, 0⟩, ⟨2, [0], 0, 0, 0, 0⟩]
theorem head3_sort : isort head3 = head3s := by kernel_rfl
theorem headC : PSpec Try.prog 30 [] (V.bool true) := by
  refine pspec tab_ok mix Try.func30 (by kernel_rfl) rfl rfl ?_
  ((conv => whnf); (repeat first | (refine wrB (by omega) ?_; conv => whnf) | (refine okB (by kernel_rfl) ?_; conv => whnf) | (refine cb (by first | rfl | omega | (simp; done) | (simp; omega)) ?_; conv => whnf) | (refine idxB_at (by decide) rfl ?_; conv => whnf) | (refine atB_at (by decide) (by decide) ?_; conv => whnf) | (refine getB_lit _ rfl ?_; conv => whnf) | (refine cnd tab_ok mix ?_; conv => whnf) | trivial))
  refine callL (sortEvents head3 (by simp [head3]) (by simp [keysOk, head3])) [] [] rfl ?_
  rw [head3_sort]
  ((conv => whnf); (repeat first | (refine wrB (by omega) ?_; conv => whnf) | (refine okB (by kernel_rfl) ?_; conv => whnf) | (refine cb (by first | rfl | omega | (simp; done) | (simp; omega)) ?_; conv => whnf) | (refine idxB_at (by decide) rfl ?_; conv => whnf) | (refine atB_at (by decide) (by decide) ?_; conv => whnf) | (refine getB_lit _ rfl ?_; conv => whnf) | (refine cnd tab_ok mix ?_; conv => whnf) | trivial))
  refine dcallC (compareItems ⟨1, 9, 0⟩ ⟨2, 0, 0⟩) ?_
  ((conv => whnf); (repeat first | (refine wrB (by omega) ?_; conv => whnf) | (refine okB (by kernel_rfl) ?_; conv => whnf) | (refine cb (by first | rfl | omega | (simp; done) | (simp; omega)) ?_; conv => whnf) | (refine idxB_at (by decide) rfl ?_; conv => whnf) | (refine atB_at (by decide) (by decide) ?_; conv => whnf) | (refine getB_lit _ rfl ?_; conv => whnf) | (refine cnd tab_ok mix ?_; conv => whnf) | trivial))
  refine dcallC (compareItems ⟨2, 9, 0⟩ ⟨2, 8, 0⟩) ?_
  ((conv => whnf); (repeat first | (refine wrB (by omega) ?_; conv => whnf) | (refine okB (by kernel_rfl) ?_; conv => whnf) | (refine cb (by first | rfl | omega | (simp; done) | (simp; omega)) ?_; conv => whnf) | (refine idxB_at (by decide) rfl ?_; conv => whnf) | (refine atB_at (by decide) (by decide) ?_; conv => whnf) | (refine getB_lit _ rfl ?_; conv => whnf) | (refine cnd tab_ok mix ?_; conv => whnf) | trivial))
  refine dcallC (compareKeys [1] [1, 0] (by simp)) ?_
  ((conv => whnf); (repeat first | (refine wrB (by omega) ?_; conv => whnf) | (refine okB (by kernel_rfl) ?_; conv => whnf) | (refine cb (by first | rfl | omega | (simp; done) | (simp; omega)) ?_; conv => whnf) | (refine idxB_at (by decide) rfl ?_; conv => whnf) | (refine atB_at (by decide) (by decide) ?_; conv => whnf) | (refine getB_lit _ rfl ?_; conv => whnf) | (refine cnd tab_ok mix ?_; conv => whnf) | trivial))
  refine dcallC (compareKeys [1, 5] [2] (by simp)) ?_
  ((conv => whnf); (repeat first | (refine wrB (by omega) ?_; conv => whnf) | (refine okB (by kernel_rfl) ?_; conv => whnf) | (refine cb (by first | rfl | omega | (simp; done) | (simp; omega)) ?_; conv => whnf) | (refine idxB_at (by decide) rfl ?_; conv => whnf) | (refine atB_at (by decide) (by decide) ?_; conv => whnf) | (refine getB_lit _ rfl ?_; conv => whnf) | (refine cnd tab_ok mix ?_; conv => whnf) | trivial))
  refine dcallC (compareKeys [] [] (by simp)) ?_
  ((conv => whnf); (repeat first | (refine wrB (by omega) ?_; conv => whnf) | (refine okB (by kernel_rfl) ?_; conv => whnf) | (refine cb (by first | rfl | omega | (simp; done) | (simp; omega)) ?_; conv => whnf) | (refine idxB_at (by decide) rfl ?_; conv => whnf) | (refine atB_at (by decide) (by decide) ?_; conv => whnf) | (refine getB_lit _ rfl ?_; conv => whnf) | (refine cnd tab_ok mix ?_; conv => whnf) | trivial))
  refine dcallN (child [4] 7 (by simp)) ?_
  ((conv => whnf); (repeat first | (refine wrB (by omega) ?_; conv => whnf) | (refine okB (by kernel_rfl) ?_; conv => whnf) | (refine cb (by first | rfl | omega | (simp; done) | (simp; omega)) ?_; conv => whnf) | (refine idxB_at (by decide) rfl ?_; conv => whnf) | (refine atB_at (by decide) (by decide) ?_; conv => whnf) | (refine getB_lit _ rfl ?_; conv => whnf) | (refine cnd tab_ok mix ?_; conv => whnf) | trivial))
  refine dcallC (sameKey [4, 7] [4, 7] (by simp)) ?_
  ((conv => whnf); (repeat first | (refine wrB (by omega) ?_; conv => whnf) | (refine okB (by kernel_rfl) ?_; conv => whnf) | (refine cb (by first | rfl | omega | (simp; done) | (simp; omega)) ?_; conv => whnf) | (refine idxB_at (by decide) rfl ?_; conv => whnf) | (refine atB_at (by decide) (by decide) ?_; conv => whnf) | (refine getB_lit _ rfl ?_; conv => whnf) | (refine cnd tab_ok mix ?_; conv => whnf) | trivial))
  refine dcallC (compareEvents ⟨1, [1], 0, 0, 0, 0⟩ ⟨1, [1, 0], 0, 0, 0, 0⟩ (by simp)) ?_
  ((conv => whnf); (repeat first | (refine wrB (by omega) ?_; conv => whnf) | (refine okB (by kernel_rfl) ?_; conv => whnf) | (refine cb (by first | rfl | omega | (simp; done) | (simp; omega)) ?_; conv => whnf) | (refine idxB_at (by decide) rfl ?_; conv => whnf) | (refine atB_at (by decide) (by decide) ?_; conv => whnf) | (refine getB_lit _ rfl ?_; conv => whnf) | (refine cnd tab_ok mix ?_; conv => whnf) | trivial))
  exact .same rfl
end Go.Proofs.Ytepepidjefpckaa.Abs
