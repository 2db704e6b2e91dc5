/- The shared memory: its data, what each access does. -/
import Derived.Test.YtajgcanfngcfhaaGreatH1
namespace Go.Proofs.YtajgcanfngcfhaaGreat.Abs
open Go.Proofs
set_option maxRecDepth 10000
set_option linter.unusedSimpArgs false
set_option linter.unusedVariables false
structure Acc where
  th : Int
  kind : Int
  idx : Int
  old : Int
  new : Int
  ok : Bool
deriving DecidableEq
def Acc.row (a : Acc) : List D := [.c (.int .i64 a.th), .c (.int .i64 a.kind), .c (.int .i64 a.idx), .c (.int .i64 a.old), .c (.int .i64 a.new), .c (.bool a.ok)]
def mtxRow (p : Bool × Int) : List D := [.c (.bool p.1), .c (.int .i64 p.2)]
structure Mem where
  words : List Int
  mtx : List (Bool × Int)
  log : List Acc
  viol : Int
/-- the four blocks of the program's memory: the record, the log, the words, the mutexes -/
def memR (m : Mem) (l w x : Nat) : B := .rows 4 [[.ac l 6 m.log.length, V.int m.viol, .ac w 1 m.words.length, .ac x 2 m.mtx.length]]
def logD (m : Mem) : B := .dat 6 (m.log.map Acc.row)
def wordsD (m : Mem) : B := .dat 1 (m.words.map intD)
def mtxD (m : Mem) : B := .dat 2 (m.mtx.map mtxRow)
/-- the log lies under the name l: every entry gives it a new one -/
def memB (m : Mem) (l : Nat) : List (Nat × B) := [(0, memR m l 2 3), (l, logD m), (2, wordsD m), (3, mtxD m)]
def Mem.word (m : Mem) (i : Nat) : Int := (m.words[i]?).getD 0
def Mem.held (m : Mem) (i : Nat) : Bool × Int := (m.mtx[i]?).getD (false, 0)
def Mem.addLog (m : Mem) (a : Acc) : Mem := { m with log := m.log ++ [a] }
def Mem.put (m : Mem) (th kind : Int) (i : Nat) (v : Int) (ok : Bool) : Mem := { m with words := m.words.set i v, log := m.log ++ [⟨th, kind, i, m.word i, v, ok⟩] }
def Mem.load (m : Mem) (th : Int) (i : Nat) : Mem := m.put th 1 i (m.word i) true
def Mem.store (m : Mem) (th : Int) (i : Nat) (v : Int) : Mem := m.put th 4 i v true
def Mem.cas (m : Mem) (th : Int) (i : Nat) (o n : Int) : Mem × Bool := if m.word i = o then (m.put th 3 i n true, true) else (m.put th 3 i (m.word i) false, false)
def Mem.lock (m : Mem) (th : Int) (i : Nat) : Mem × Bool :=
  if (m.held i).1 = true then ({ m with log := m.log ++ [⟨th, 5, i, 1, 1, false⟩] }, false)
  else ({ m with mtx := m.mtx.set i (true, th), log := m.log ++ [⟨th, 5, i, 0, 1, true⟩] }, true)
def bitI (b : Bool) : Int := if b = true then 1 else 0
def Mem.touch (m : Mem) (th : Int) (i : Nat) : Mem := if m.held i = (true, th) then m else { m with viol := m.viol + 1 }
/-- the sizes that the machine can hold -/
structure Mem.Fits (m : Mem) : Prop where
  log : m.log.length < 1000000
  viol : 0 ≤ m.viol ∧ m.viol < 1000000000
  words : m.words.length < 1000000
  mtx : m.mtx.length < 1000000
theorem Mem.word_get {m : Mem} {i : Nat} (h : i < m.words.length) : m.words[i]? = some (m.word i) := by
  unfold Mem.word
  rw [List.getElem?_eq_getElem h]; rfl
theorem Mem.held_get {m : Mem} {i : Nat} (h : i < m.mtx.length) : m.mtx[i]? = some (m.held i) := by
  unfold Mem.held
  rw [List.getElem?_eq_getElem h]; rfl
theorem atW (m : Mem) (i : Nat) (h : i < m.words.length) (hf : m.Fits) : LSpec Tryz.prog 94 [.p 0 4 0 2, V.int i] (memB m 1) 4 (.p 2 1 i 0) (memB m 1) 4 := by
  have hw := hf.words
  refine lspec tab_ok mix Tryz.func94 (by kernel_rfl) (by rfl) (by rfl) (by rfl) (by rfl) ?_
  ((conv => whnf); (repeat (first | ((first | refine z1 ?_ | refine z2 ?_ | refine z3 ?_ | refine idxB_at (by decide) rfl ?_ | refine atB_at (by decide) (by decide) ?_ | refine getB_lit _ rfl ?_ | refine z7 ?_); conv => whnf) | exact True.intro)))
  rw [show decide ((i : Int) < 0) = false from decide_eq_false (by omega)]
  ((conv => whnf); (repeat (first | ((first | refine z1 ?_ | refine z2 ?_ | refine z3 ?_ | refine idxB_at (by decide) rfl ?_ | refine atB_at (by decide) (by decide) ?_ | refine getB_lit _ rfl ?_ | refine z7 ?_); conv => whnf) | exact True.intro)))
  rw [show decide ((m.words.length : Int) ≤ i) = false from decide_eq_false (by omega)]
  ((conv => whnf); (repeat (first | ((first | refine z1 ?_ | refine z2 ?_ | refine z3 ?_ | refine idxB_at (by decide) rfl ?_ | refine atB_at (by decide) (by decide) ?_ | refine getB_lit _ rfl ?_ | refine z7 ?_); conv => whnf) | exact True.intro)))
  refine atB h ?_
  ((conv => whnf); (repeat (first | ((first | refine z1 ?_ | refine z2 ?_ | refine z3 ?_ | refine idxB_at (by decide) rfl ?_ | refine atB_at (by decide) (by decide) ?_ | refine getB_lit _ rfl ?_ | refine z7 ?_); conv => whnf) | exact True.intro)))
  refine .mk [] ?_
  ((conv => whnf); (repeat (first | ((first | refine z1 ?_ | refine z2 ?_ | refine z3 ?_ | refine idxB_at (by decide) rfl ?_ | refine atB_at (by decide) (by decide) ?_ | refine getB_lit _ rfl ?_ | refine z7 ?_); conv => whnf) | exact True.intro)))
theorem atX (m : Mem) (i : Nat) (h : i < m.mtx.length) (hw : m.mtx.length < 1000000) : LSpec Tryz.prog 115 [.p 0 4 0 3, V.int i] (memB m 1) 4 (.p 3 2 i 0) (memB m 1) 4 := by
  refine lspec tab_ok mix Tryz.func115 (by kernel_rfl) (by rfl) (by rfl) (by rfl) (by rfl) ?_
  ((conv => whnf); (repeat (first | ((first | refine z1 ?_ | refine z2 ?_ | refine z3 ?_ | refine idxB_at (by decide) rfl ?_ | refine atB_at (by decide) (by decide) ?_ | refine getB_lit _ rfl ?_ | refine z7 ?_); conv => whnf) | exact True.intro)))
  rw [show decide ((i : Int) < 0) = false from decide_eq_false (by omega)]
  ((conv => whnf); (repeat (first | ((first | refine z1 ?_ | refine z2 ?_ | refine z3 ?_ | refine idxB_at (by decide) rfl ?_ | refine atB_at (by decide) (by decide) ?_ | refine getB_lit _ rfl ?_ | refine z7 ?_); conv => whnf) | exact True.intro)))
  rw [show decide ((m.mtx.length : Int) ≤ i) = false from decide_eq_false (by omega)]
  ((conv => whnf); (repeat (first | ((first | refine z1 ?_ | refine z2 ?_ | refine z3 ?_ | refine idxB_at (by decide) rfl ?_ | refine atB_at (by decide) (by decide) ?_ | refine getB_lit _ rfl ?_ | refine z7 ?_); conv => whnf) | exact True.intro)))
  refine atB h ?_
  ((conv => whnf); (repeat (first | ((first | refine z1 ?_ | refine z2 ?_ | refine z3 ?_ | refine idxB_at (by decide) rfl ?_ | refine atB_at (by decide) (by decide) ?_ | refine getB_lit _ rfl ?_ | refine z7 ?_); conv => whnf) | exact True.intro)))
  refine .mk [] ?_
  ((conv => whnf); (repeat (first | ((first | refine z1 ?_ | refine z2 ?_ | refine z3 ?_ | refine idxB_at (by decide) rfl ?_ | refine atB_at (by decide) (by decide) ?_ | refine getB_lit _ rfl ?_ | refine z7 ?_); conv => whnf) | exact True.intro)))
theorem recordC (m : Mem) (hl : m.log.length < 1000000) (a : Acc) : LSpec Tryz.prog 128 [.p 0 4 0 0, V.int a.th, V.int a.kind, V.int a.idx, V.int a.old, V.int a.new, V.bool a.ok] (memB m 1) 4 (.tup []) (memB (m.addLog a) 4) 5 := by
  refine lspec tab_ok mix Tryz.func128 (by kernel_rfl) (by rfl) (by rfl) (by rfl) (by rfl) ?_
  ((conv => whnf); (repeat (first | ((first | refine z1 ?_ | refine z2 ?_ | refine z3 ?_ | refine idxB_at (by decide) rfl ?_ | refine atB_at (by decide) (by decide) ?_ | refine getB_lit _ rfl ?_ | refine z7 ?_); conv => whnf) | exact True.intro)))
  refine .mk [(4, 896)] ?_
  ((conv => whnf); (repeat (first | ((first | refine z1 ?_ | refine z2 ?_ | refine z3 ?_ | refine idxB_at (by decide) rfl ?_ | refine atB_at (by decide) (by decide) ?_ | refine getB_lit _ rfl ?_ | refine z7 ?_); conv => whnf) | exact True.intro)))
  refine cb (by simp [Mem.addLog]) ?_
  ((conv => whnf); (repeat (first | ((first | refine z1 ?_ | refine z2 ?_ | refine z3 ?_ | refine idxB_at (by decide) rfl ?_ | refine atB_at (by decide) (by decide) ?_ | refine getB_lit _ rfl ?_ | refine z7 ?_); conv => whnf) | exact True.intro)))
  refine cb (by simp [Mem.addLog, Acc.row]) ?_
  ((conv => whnf); (repeat (first | ((first | refine z1 ?_ | refine z2 ?_ | refine z3 ?_ | refine idxB_at (by decide) rfl ?_ | refine atB_at (by decide) (by decide) ?_ | refine getB_lit _ rfl ?_ | refine z7 ?_); conv => whnf) | exact True.intro)))
theorem bitC (b : Bool) : PSpec Tryz.prog 129 [V.bool b] (V.int (bitI b)) := by
  refine pspec tab_ok mix Tryz.func129 (by kernel_rfl) rfl rfl ?_
  cases b
  · ((conv => whnf); (repeat (first | ((first | refine z1 ?_ | refine z2 ?_ | refine z3 ?_ | refine idxB_at (by decide) rfl ?_ | refine atB_at (by decide) (by decide) ?_ | refine getB_lit _ rfl ?_ | refine z7 ?_); conv => whnf) | exact True.intro)))
    exact .same rfl
  · ((conv => whnf); (repeat (first | ((first | refine z1 ?_ | refine z2 ?_ | refine z3 ?_ | refine idxB_at (by decide) rfl ?_ | refine atB_at (by decide) (by decide) ?_ | refine getB_lit _ rfl ?_ | refine z7 ?_); conv => whnf) | exact True.intro)))
    exact .same rfl
theorem wordAtC (m : Mem) (i : Nat) (h : i < m.words.length) (hf : m.Fits) : LSpec Tryz.prog 31 [.p 0 4 0 0, V.int i] (memB m 1) 4 (V.int (m.word i)) (memB m 1) 4 := by
  refine lspec tab_ok mix Tryz.func31 (by kernel_rfl) (by rfl) (by rfl) (by rfl) (by rfl) ?_
  ((conv => whnf); (repeat (first | ((first | refine z1 ?_ | refine z2 ?_ | refine z3 ?_ | refine idxB_at (by decide) rfl ?_ | refine atB_at (by decide) (by decide) ?_ | refine getB_lit _ rfl ?_ | refine z7 ?_); conv => whnf) | exact True.intro)))
  refine callL (atW m i h hf) [some 0, some 1, some 2, some 3] [] rfl ?_
  ((conv => whnf); (repeat (first | ((first | refine z1 ?_ | refine z2 ?_ | refine z3 ?_ | refine idxB_at (by decide) rfl ?_ | refine atB_at (by decide) (by decide) ?_ | refine getB_lit _ rfl ?_ | refine z7 ?_); conv => whnf) | exact True.intro)))
  refine getB (Mem.word_get h) ?_
  ((conv => whnf); (repeat (first | ((first | refine z1 ?_ | refine z2 ?_ | refine z3 ?_ | refine idxB_at (by decide) rfl ?_ | refine atB_at (by decide) (by decide) ?_ | refine getB_lit _ rfl ?_ | refine z7 ?_); conv => whnf) | exact True.intro)))
  refine .mk [] ?_
  ((conv => whnf); (repeat (first | ((first | refine z1 ?_ | refine z2 ?_ | refine z3 ?_ | refine idxB_at (by decide) rfl ?_ | refine atB_at (by decide) (by decide) ?_ | refine getB_lit _ rfl ?_ | refine z7 ?_); conv => whnf) | exact True.intro)))
theorem violC (m : Mem) : LSpec Tryz.prog 21 [.p 0 4 0 0] (memB m 1) 4 (V.int m.viol) (memB m 1) 4 := by
  refine lspec tab_ok mix Tryz.func21 (by kernel_rfl) (by rfl) (by rfl) (by rfl) (by rfl) ?_
  ((conv => whnf); (repeat (first | ((first | refine z1 ?_ | refine z2 ?_ | refine z3 ?_ | refine idxB_at (by decide) rfl ?_ | refine atB_at (by decide) (by decide) ?_ | refine getB_lit _ rfl ?_ | refine z7 ?_); conv => whnf) | exact True.intro)))
  refine .mk [] ?_
  ((conv => whnf); (repeat (first | ((first | refine z1 ?_ | refine z2 ?_ | refine z3 ?_ | refine idxB_at (by decide) rfl ?_ | refine atB_at (by decide) (by decide) ?_ | refine getB_lit _ rfl ?_ | refine z7 ?_); conv => whnf) | exact True.intro)))
theorem lockC (m : Mem) (th : Int) (i : Nat) (h : i < m.mtx.length) (hf : m.Fits) : LSpec Tryz.prog 74 [.p 0 4 0 0, V.int th, V.int i] (memB m 1) 4 (V.bool (m.lock th i).2) (memB (m.lock th i).1 4) 5 := by
  unfold Mem.lock
  have hg := Mem.held_get h
  cases hh : (m.held i).1 with
  | true =>
    rw [if_pos rfl]
    refine lspec tab_ok mix Tryz.func74 (by kernel_rfl) (by rfl) (by rfl) (by rfl) (by rfl) ?_
    ((conv => whnf); (repeat (first | ((first | refine z1 ?_ | refine z2 ?_ | refine z3 ?_ | refine idxB_at (by decide) rfl ?_ | refine atB_at (by decide) (by decide) ?_ | refine getB_lit _ rfl ?_ | refine z7 ?_); conv => whnf) | exact True.intro)))
    refine callL (atX m i h hf.mtx) [some 0, some 1, some 2, some 3] [] rfl ?_
    ((conv => whnf); (repeat (first | ((first | refine z1 ?_ | refine z2 ?_ | refine z3 ?_ | refine idxB_at (by decide) rfl ?_ | refine atB_at (by decide) (by decide) ?_ | refine getB_lit _ rfl ?_ | refine z7 ?_); conv => whnf) | exact True.intro)))
    refine getB hg ?_
    rw [show mtxRow (m.held i) = [.c (.bool true), .c (.int .i64 (m.held i).2)] by unfold mtxRow; rw [hh]]
    ((conv => whnf); (repeat (first | ((first | refine z1 ?_ | refine z2 ?_ | refine z3 ?_ | refine idxB_at (by decide) rfl ?_ | refine atB_at (by decide) (by decide) ?_ | refine getB_lit _ rfl ?_ | refine z7 ?_); conv => whnf) | exact True.intro)))
    refine dcallB (bitC true) ?_
    ((conv => whnf); (repeat (first | ((first | refine z1 ?_ | refine z2 ?_ | refine z3 ?_ | refine idxB_at (by decide) rfl ?_ | refine atB_at (by decide) (by decide) ?_ | refine getB_lit _ rfl ?_ | refine z7 ?_); conv => whnf) | exact True.intro)))
    refine dcallL (recordC m hf.log ⟨th, 5, i, 1, 1, false⟩) [some 0, some 1, some 2, some 3] [] ?_
    ((conv => whnf); (repeat (first | ((first | refine z1 ?_ | refine z2 ?_ | refine z3 ?_ | refine idxB_at (by decide) rfl ?_ | refine atB_at (by decide) (by decide) ?_ | refine getB_lit _ rfl ?_ | refine z7 ?_); conv => whnf) | exact True.intro)))
    refine .mk [(4, 1664)] ?_
    ((conv => whnf); (repeat (first | ((first | refine z1 ?_ | refine z2 ?_ | refine z3 ?_ | refine idxB_at (by decide) rfl ?_ | refine atB_at (by decide) (by decide) ?_ | refine getB_lit _ rfl ?_ | refine z7 ?_); conv => whnf) | exact True.intro)))
  | false =>
    rw [if_neg (by simp)]
    refine lspec tab_ok mix Tryz.func74 (by kernel_rfl) (by rfl) (by rfl) (by rfl) (by rfl) ?_
    ((conv => whnf); (repeat (first | ((first | refine z1 ?_ | refine z2 ?_ | refine z3 ?_ | refine idxB_at (by decide) rfl ?_ | refine atB_at (by decide) (by decide) ?_ | refine getB_lit _ rfl ?_ | refine z7 ?_); conv => whnf) | exact True.intro)))
    refine callL (atX m i h hf.mtx) [some 0, some 1, some 2, some 3] [] rfl ?_
    ((conv => whnf); (repeat (first | ((first | refine z1 ?_ | refine z2 ?_ | refine z3 ?_ | refine idxB_at (by decide) rfl ?_ | refine atB_at (by decide) (by decide) ?_ | refine getB_lit _ rfl ?_ | refine z7 ?_); conv => whnf) | exact True.intro)))
    refine getB hg ?_
    rw [show mtxRow (m.held i) = [.c (.bool false), .c (.int .i64 (m.held i).2)] by unfold mtxRow; rw [hh]]
    ((conv => whnf); (repeat (first | ((first | refine z1 ?_ | refine z2 ?_ | refine z3 ?_ | refine idxB_at (by decide) rfl ?_ | refine atB_at (by decide) (by decide) ?_ | refine getB_lit _ rfl ?_ | refine z7 ?_); conv => whnf) | exact True.intro)))
    refine getB hg ?_
    rw [show mtxRow (m.held i) = [.c (.bool false), .c (.int .i64 (m.held i).2)] by unfold mtxRow; rw [hh]]
    ((conv => whnf); (repeat (first | ((first | refine z1 ?_ | refine z2 ?_ | refine z3 ?_ | refine idxB_at (by decide) rfl ?_ | refine atB_at (by decide) (by decide) ?_ | refine getB_lit _ rfl ?_ | refine z7 ?_); conv => whnf) | exact True.intro)))
    refine dcallB (bitC false) ?_
    ((conv => whnf); (repeat (first | ((first | refine z1 ?_ | refine z2 ?_ | refine z3 ?_ | refine idxB_at (by decide) rfl ?_ | refine atB_at (by decide) (by decide) ?_ | refine getB_lit _ rfl ?_ | refine z7 ?_); conv => whnf) | exact True.intro)))
    refine dcallL (recordC { m with mtx := m.mtx.set i (true, th) } hf.log ⟨th, 5, i, 0, 1, true⟩) [some 0, some 1, some 2, some 3] [] ?_
    ((conv => whnf); (repeat (first | ((first | refine z1 ?_ | refine z2 ?_ | refine z3 ?_ | refine idxB_at (by decide) rfl ?_ | refine atB_at (by decide) (by decide) ?_ | refine getB_lit _ rfl ?_ | refine z7 ?_); conv => whnf) | exact True.intro)))
    refine cb (by simp [mtxRow]) ?_
    ((conv => whnf); (repeat (first | ((first | refine z1 ?_ | refine z2 ?_ | refine z3 ?_ | refine idxB_at (by decide) rfl ?_ | refine atB_at (by decide) (by decide) ?_ | refine getB_lit _ rfl ?_ | refine z7 ?_); conv => whnf) | exact True.intro)))
    refine .mk [(4, 1984)] ?_
    ((conv => whnf); (repeat (first | ((first | refine z1 ?_ | refine z2 ?_ | refine z3 ?_ | refine idxB_at (by decide) rfl ?_ | refine atB_at (by decide) (by decide) ?_ | refine getB_lit _ rfl ?_ | refine z7 ?_); conv => whnf) | exact True.intro)))
theorem touchC (m : Mem) (th : Int) (i : Nat) (h : i < m.mtx.length) (hx : m.mtx.length < 1000000) (hv : 0 ≤ m.viol ∧ m.viol < 2000000000) : LSpec Tryz.prog 131 [.p 0 4 0 0, V.int th, V.int i] (memB m 1) 4 (V.bool (decide (m.held i = (true, th)))) (memB (m.touch th i) 1) 4 := by
  unfold Mem.touch
  have hg := Mem.held_get h
  by_cases hh : m.held i = (true, th)
  · rw [if_pos hh, decide_eq_true hh]
    rw [hh] at hg
    refine lspec tab_ok mix Tryz.func131 (by kernel_rfl) (by rfl) (by rfl) (by rfl) (by rfl) ?_
    ((conv => whnf); (repeat (first | ((first | refine z1 ?_ | refine z2 ?_ | refine z3 ?_ | refine idxB_at (by decide) rfl ?_ | refine atB_at (by decide) (by decide) ?_ | refine getB_lit _ rfl ?_ | refine z7 ?_); conv => whnf) | exact True.intro)))
    refine callL (atX m i h hx) [some 0, some 1, some 2, some 3] [] rfl ?_
    ((conv => whnf); (repeat (first | ((first | refine z1 ?_ | refine z2 ?_ | refine z3 ?_ | refine idxB_at (by decide) rfl ?_ | refine atB_at (by decide) (by decide) ?_ | refine getB_lit _ rfl ?_ | refine z7 ?_); conv => whnf) | exact True.intro)))
    refine getB hg ?_
    ((conv => whnf); (repeat (first | ((first | refine z1 ?_ | refine z2 ?_ | refine z3 ?_ | refine idxB_at (by decide) rfl ?_ | refine atB_at (by decide) (by decide) ?_ | refine getB_lit _ rfl ?_ | refine z7 ?_); conv => whnf) | exact True.intro)))
    refine eqB [false, true] (by kernel_rfl) rfl rfl rfl ?_
    ((conv => whnf); (repeat (first | ((first | refine z1 ?_ | refine z2 ?_ | refine z3 ?_ | refine idxB_at (by decide) rfl ?_ | refine atB_at (by decide) (by decide) ?_ | refine getB_lit _ rfl ?_ | refine z7 ?_); conv => whnf) | exact True.intro)))
    rw [show ((true, th).1 == true && (decide ((true, th).2 = th) && true)) = true by simp]
    ((conv => whnf); (repeat (first | ((first | refine z1 ?_ | refine z2 ?_ | refine z3 ?_ | refine idxB_at (by decide) rfl ?_ | refine atB_at (by decide) (by decide) ?_ | refine getB_lit _ rfl ?_ | refine z7 ?_); conv => whnf) | exact True.intro)))
    refine .mk [] ?_
    ((conv => whnf); (repeat (first | ((first | refine z1 ?_ | refine z2 ?_ | refine z3 ?_ | refine idxB_at (by decide) rfl ?_ | refine atB_at (by decide) (by decide) ?_ | refine getB_lit _ rfl ?_ | refine z7 ?_); conv => whnf) | exact True.intro)))
  · have hx' : ((m.held i).1 == true && (decide ((m.held i).2 = th) && true)) = false := by
      cases hb : (m.held i).1 with
      | false => rfl
      | true =>
        have : (m.held i).2 ≠ th := fun e => hh (Prod.ext hb e)
        simp [this]
    rw [if_neg hh, decide_eq_false hh]
    refine lspec tab_ok mix Tryz.func131 (by kernel_rfl) (by rfl) (by rfl) (by rfl) (by rfl) ?_
    ((conv => whnf); (repeat (first | ((first | refine z1 ?_ | refine z2 ?_ | refine z3 ?_ | refine idxB_at (by decide) rfl ?_ | refine atB_at (by decide) (by decide) ?_ | refine getB_lit _ rfl ?_ | refine z7 ?_); conv => whnf) | exact True.intro)))
    refine callL (atX m i h hx) [some 0, some 1, some 2, some 3] [] rfl ?_
    ((conv => whnf); (repeat (first | ((first | refine z1 ?_ | refine z2 ?_ | refine z3 ?_ | refine idxB_at (by decide) rfl ?_ | refine atB_at (by decide) (by decide) ?_ | refine getB_lit _ rfl ?_ | refine z7 ?_); conv => whnf) | exact True.intro)))
    refine getB hg ?_
    ((conv => whnf); (repeat (first | ((first | refine z1 ?_ | refine z2 ?_ | refine z3 ?_ | refine idxB_at (by decide) rfl ?_ | refine atB_at (by decide) (by decide) ?_ | refine getB_lit _ rfl ?_ | refine z7 ?_); conv => whnf) | exact True.intro)))
    refine eqB [false, true] (by kernel_rfl) rfl rfl rfl ?_
    ((conv => whnf); (repeat (first | ((first | refine z1 ?_ | refine z2 ?_ | refine z3 ?_ | refine idxB_at (by decide) rfl ?_ | refine atB_at (by decide) (by decide) ?_ | refine getB_lit _ rfl ?_ | refine z7 ?_); conv => whnf) | exact True.intro)))
    rw [hx']
    ((conv => whnf); (repeat (first | ((first | refine z1 ?_ | refine z2 ?_ | refine z3 ?_ | refine idxB_at (by decide) rfl ?_ | refine atB_at (by decide) (by decide) ?_ | refine getB_lit _ rfl ?_ | refine z7 ?_); conv => whnf) | exact True.intro)))
    refine .mk [] ?_
    ((conv => whnf); (repeat (first | ((first | refine z1 ?_ | refine z2 ?_ | refine z3 ?_ | refine idxB_at (by decide) rfl ?_ | refine atB_at (by decide) (by decide) ?_ | refine getB_lit _ rfl ?_ | refine z7 ?_); conv => whnf) | exact True.intro)))
end Go.Proofs.YtajgcanfngcfhaaGreat.Abs
