/- The store: its data and its small functions. -/
import Derived.Test.YtajgcanfngcfhaaGreatH3
import Derived.Test.YtajgcanfngcfhaaGreatF30
namespace Go.Proofs.YtajgcanfngcfhaaGreat.Abs
open Go.Proofs
set_option maxRecDepth 10000
set_option linter.unusedSimpArgs false
set_option linter.unusedVariables false
structure Slt where
  gen : Int
  state : Int
  time : Int
  seq : Int
deriving DecidableEq
def Slt.v (s : Slt) : V := .agg [V.int s.gen, V.int s.state, V.int s.time, V.int s.seq]
def Slt.row (s : Slt) : List D := [.c (.int .i64 s.gen), .c (.int .i64 s.state), .c (.int .i64 s.time), .c (.int .i64 s.seq)]
def sltsV (l : List Slt) : V := .lst 4 (l.map Slt.row) false
structure Sto where
  m : Mem
  slots : List Slt
  idle : List Int
  next : Int
  q : Lad
def stoC (s : Sto) (a : Nat) : List V := [.p a 4 0 0, sltsV s.slots, intsV s.idle, V.int s.next, V.int s.q.topStart, itemsV s.q.top, rngsV s.q.rungs, itemsV s.q.bottom, V.int s.q.moves, V.int s.q.compares]
/-- the five blocks of a store: the store, the memory's record, its log, words and mutexes -/
def stoB (s : Sto) (l : Nat) : List (Nat × B) := [(0, .rows 10 [stoC s 1]), (1, memR s.m l 3 4), (l, logD s.m), (3, wordsD s.m), (4, mtxD s.m)]
structure Sto.Fits (s : Sto) : Prop where
  mem : s.m.Fits
  slots : s.slots.length < 1000000
  idle : s.idle.length < 1000000
  next : 0 ≤ s.next ∧ s.next < 1000000000
def Mem.touches (m : Mem) (th : Int) (l : List Nat) : Mem := l.foldl (fun m i => m.touch th i) m
theorem touch_same (m : Mem) (th : Int) (i : Nat) : (m.touch th i).words = m.words ∧ (m.touch th i).mtx = m.mtx ∧ (m.touch th i).log = m.log ∧ m.viol ≤ (m.touch th i).viol ∧ (m.touch th i).viol ≤ m.viol + 1 := by
  unfold Mem.touch; split
  · exact ⟨rfl, rfl, rfl, Int.le_refl _, by omega⟩
  · exact ⟨rfl, rfl, rfl, by dsimp only; omega, by dsimp only; omega⟩
theorem touches_same (th : Int) : ∀ (l : List Nat) (m : Mem), (m.touches th l).words = m.words ∧ (m.touches th l).mtx = m.mtx ∧ (m.touches th l).log = m.log ∧ m.viol ≤ (m.touches th l).viol ∧ (m.touches th l).viol ≤ m.viol + l.length
  | [], m => ⟨rfl, rfl, rfl, Int.le_refl _, by simp [Mem.touches]⟩
  | i :: l, m => by
    obtain ⟨a1, a2, a3, a4, a5⟩ := touch_same m th i
    obtain ⟨b1, b2, b3, b4, b5⟩ := touches_same th l (m.touch th i)
    have e : m.touches th (i :: l) = (m.touch th i).touches th l := rfl
    rw [e]
    exact ⟨b1.trans a1, b2.trans a2, b3.trans a3, by omega, by rw [List.length_cons]; omega⟩
theorem cloneSlts (l : List Slt) (hl : l.length < 1073741824) : LSpec Tryz.prog 86 [sltsV l] [] 0 (.ac 0 4 l.length) [(0, .dat 4 (l.map Slt.row))] 1 := by
  refine lspec tab_ok mix Tryz.func86 (by kernel_rfl) (by rfl) (by rfl) (by rfl) (by rfl) ?_
  ((conv => whnf); (repeat (first | ((first | refine z1 ?_ | refine z2 ?_ | refine z3 ?_ | refine idxB_at (by decide) rfl ?_ | refine atB_at (by decide) (by decide) ?_ | refine getB_lit _ rfl ?_ | refine z7 ?_); conv => whnf) | exact True.intro)))
  refine nilB ?_ ?_
  · ((conv => whnf); (repeat (first | ((first | refine z1 ?_ | refine z2 ?_ | refine z3 ?_ | refine idxB_at (by decide) rfl ?_ | refine atB_at (by decide) (by decide) ?_ | refine getB_lit _ rfl ?_ | refine z7 ?_); conv => whnf) | exact True.intro)))
    refine .mk [(0, 384)] ?_
    ((conv => whnf); (repeat (first | ((first | refine z1 ?_ | refine z2 ?_ | refine z3 ?_ | refine idxB_at (by decide) rfl ?_ | refine atB_at (by decide) (by decide) ?_ | refine getB_lit _ rfl ?_ | refine z7 ?_); conv => whnf) | exact True.intro)))
  · intro h
    have h : l = [] := by simpa using h
    subst h
    ((conv => whnf); (repeat (first | ((first | refine z1 ?_ | refine z2 ?_ | refine z3 ?_ | refine idxB_at (by decide) rfl ?_ | refine atB_at (by decide) (by decide) ?_ | refine getB_lit _ rfl ?_ | refine z7 ?_); conv => whnf) | exact True.intro)))
    refine .mk [(0, 385)] ?_
    ((conv => whnf); (repeat (first | ((first | refine z1 ?_ | refine z2 ?_ | refine z3 ?_ | refine idxB_at (by decide) rfl ?_ | refine atB_at (by decide) (by decide) ?_ | refine getB_lit _ rfl ?_ | refine z7 ?_); conv => whnf) | exact True.intro)))
theorem cloneInts (l : List Int) (hl : l.length < 1073741824) : LSpec Tryz.prog 81 [intsV l] [] 0 (.ac 0 1 l.length) [(0, .dat 1 (l.map intD))] 1 := by
  refine lspec tab_ok mix Tryz.func81 (by kernel_rfl) (by rfl) (by rfl) (by rfl) (by rfl) ?_
  ((conv => whnf); (repeat (first | ((first | refine z1 ?_ | refine z2 ?_ | refine z3 ?_ | refine idxB_at (by decide) rfl ?_ | refine atB_at (by decide) (by decide) ?_ | refine getB_lit _ rfl ?_ | refine z7 ?_); conv => whnf) | exact True.intro)))
  refine nilB ?_ ?_
  · ((conv => whnf); (repeat (first | ((first | refine z1 ?_ | refine z2 ?_ | refine z3 ?_ | refine idxB_at (by decide) rfl ?_ | refine atB_at (by decide) (by decide) ?_ | refine getB_lit _ rfl ?_ | refine z7 ?_); conv => whnf) | exact True.intro)))
    refine .mk [(0, 384)] ?_
    ((conv => whnf); (repeat (first | ((first | refine z1 ?_ | refine z2 ?_ | refine z3 ?_ | refine idxB_at (by decide) rfl ?_ | refine atB_at (by decide) (by decide) ?_ | refine getB_lit _ rfl ?_ | refine z7 ?_); conv => whnf) | exact True.intro)))
  · intro h
    have h : l = [] := by simpa using h
    subst h
    ((conv => whnf); (repeat (first | ((first | refine z1 ?_ | refine z2 ?_ | refine z3 ?_ | refine idxB_at (by decide) rfl ?_ | refine atB_at (by decide) (by decide) ?_ | refine getB_lit _ rfl ?_ | refine z7 ?_); conv => whnf) | exact True.intro)))
    refine .mk [(0, 385)] ?_
    ((conv => whnf); (repeat (first | ((first | refine z1 ?_ | refine z2 ?_ | refine z3 ?_ | refine idxB_at (by decide) rfl ?_ | refine atB_at (by decide) (by decide) ?_ | refine getB_lit _ rfl ?_ | refine z7 ?_); conv => whnf) | exact True.intro)))
theorem memoryC (s : Sto) : LSpec Tryz.prog 20 [.p 0 10 0 0] (stoB s 2) 5 (.p 1 4 0 0) (stoB s 2) 5 := by
  refine lspec tab_ok mix Tryz.func20 (by kernel_rfl) (by rfl) (by rfl) (by rfl) (by rfl) ?_
  ((conv => whnf); (repeat (first | ((first | refine z1 ?_ | refine z2 ?_ | refine z3 ?_ | refine idxB_at (by decide) rfl ?_ | refine atB_at (by decide) (by decide) ?_ | refine getB_lit _ rfl ?_ | refine z7 ?_); conv => whnf) | exact True.intro)))
  refine .mk [] ?_
  ((conv => whnf); (repeat (first | ((first | refine z1 ?_ | refine z2 ?_ | refine z3 ?_ | refine idxB_at (by decide) rfl ?_ | refine atB_at (by decide) (by decide) ?_ | refine getB_lit _ rfl ?_ | refine z7 ?_); conv => whnf) | exact True.intro)))
theorem capacityC (s : Sto) : LSpec Tryz.prog 73 [.p 0 10 0 0] (stoB s 2) 5 (V.int s.slots.length) (stoB s 2) 5 := by
  refine lspec tab_ok mix Tryz.func73 (by kernel_rfl) (by rfl) (by rfl) (by rfl) (by rfl) ?_
  ((conv => whnf); (repeat (first | ((first | refine z1 ?_ | refine z2 ?_ | refine z3 ?_ | refine idxB_at (by decide) rfl ?_ | refine atB_at (by decide) (by decide) ?_ | refine getB_lit _ rfl ?_ | refine z7 ?_); conv => whnf) | exact True.intro)))
  refine .mk [] ?_
  ((conv => whnf); (repeat (first | ((first | refine z1 ?_ | refine z2 ?_ | refine z3 ?_ | refine idxB_at (by decide) rfl ?_ | refine atB_at (by decide) (by decide) ?_ | refine getB_lit _ rfl ?_ | refine z7 ?_); conv => whnf) | exact True.intro)))
def Sto.touch (s : Sto) (th : Int) (l : List Nat) : Sto := { s with m := s.m.touches th l }
theorem guardC (s : Sto) (th : Int) (l : List Nat) (hf : s.Fits) (hl : l.length < 10) (hi : ∀ i ∈ l, i < s.m.mtx.length) :
    LSpec Tryz.prog 77 [.p 0 10 0 0, V.int th, .lst 1 (l.map fun (i : Nat) => [.c (.int .i64 i)]) false] (stoB s 2) 5 (.tup []) (stoB (s.touch th l) 2) 5 := by
  have h0 : s.m.touches th (l.take 0) = s.m := rfl
  have hfm := hf.mem
  refine lspec tab_ok mix Tryz.func77 (by kernel_rfl) (by rfl) (by rfl) (by rfl) (by rfl) ?_
  ((conv => whnf); (repeat (first | ((first | refine z1 ?_ | refine z2 ?_ | refine z3 ?_ | refine idxB_at (by decide) rfl ?_ | refine atB_at (by decide) (by decide) ?_ | refine getB_lit _ rfl ?_ | refine z7 ?_); conv => whnf) | exact True.intro)))
  refine loopB tab_ok mix [0, 1, 8, 9] [0, 2, 3, 4] (fun k : Nat => [(10, V.int k)]) (fun k => [(1, memR (s.m.touches th (l.take k)) 2 3 4)]) (fun k => k ≤ l.length) (fun k => l.length - k) [] 0 rfl (by omega) (by rw [h0]; ((conv => whnf); (repeat (first | ((first | refine z1 ?_ | refine z2 ?_ | refine z3 ?_ | refine idxB_at (by decide) rfl ?_ | refine atB_at (by decide) (by decide) ?_ | refine getB_lit _ rfl ?_ | refine z7 ?_); conv => whnf) | exact True.intro)))) ?_
  rintro k hk
  ((conv => whnf); (repeat (first | ((first | refine z1 ?_ | refine z2 ?_ | refine z3 ?_ | refine idxB_at (by decide) rfl ?_ | refine atB_at (by decide) (by decide) ?_ | refine getB_lit _ rfl ?_ | refine z7 ?_); conv => whnf) | exact True.intro)))
  obtain ⟨t1, t2, t3, t4, t5⟩ := touches_same th (l.take k) s.m
  have htl : (l.take k).length ≤ l.length := by rw [List.length_take]; omega
  have hfk : (s.m.touches th (l.take k)).words.length < 1000000 ∧ (s.m.touches th (l.take k)).mtx.length < 1000000 := by rw [t1, t2]; exact ⟨hfm.words, hfm.mtx⟩
  refine br_dec (fun u => ?_) (fun u => ?_) <;> ((conv => whnf); (repeat (first | ((first | refine z1 ?_ | refine z2 ?_ | refine z3 ?_ | refine idxB_at (by decide) rfl ?_ | refine atB_at (by decide) (by decide) ?_ | refine getB_lit _ rfl ?_ | refine z7 ?_); conv => whnf) | exact True.intro)))
  · have u' : k < l.length := by simpa using u
    obtain ⟨i, hik⟩ := get_lt u'
    have hnx : s.m.touches th (l.take (k + 1)) = (s.m.touches th (l.take k)).touch th i := by
      unfold Mem.touches; rw [List.take_add_one, hik, Option.toList_some, List.foldl_append]; rfl
    obtain ⟨n1, n2, n3, _, _⟩ := touch_same (s.m.touches th (l.take k)) th i
    refine idxB hik ?_
    ((conv => whnf); (repeat (first | ((first | refine z1 ?_ | refine z2 ?_ | refine z3 ?_ | refine idxB_at (by decide) rfl ?_ | refine atB_at (by decide) (by decide) ?_ | refine getB_lit _ rfl ?_ | refine z7 ?_); conv => whnf) | exact True.intro)))
    refine callL (touchC (s.m.touches th (l.take k)) th i (by rw [t2]; exact hi i (List.mem_of_getElem? hik)) hfk.2 (by have := hfm.viol; omega)) [some 1, some 2, some 3, some 4] [] rfl ?_
    ((conv => whnf); (repeat (first | ((first | refine z1 ?_ | refine z2 ?_ | refine z3 ?_ | refine idxB_at (by decide) rfl ?_ | refine atB_at (by decide) (by decide) ?_ | refine getB_lit _ rfl ?_ | refine z7 ?_); conv => whnf) | exact True.intro)))
    refine cb (by rw [t3]) ?_
    ((conv => whnf); (repeat (first | ((first | refine z1 ?_ | refine z2 ?_ | refine z3 ?_ | refine idxB_at (by decide) rfl ?_ | refine atB_at (by decide) (by decide) ?_ | refine getB_lit _ rfl ?_ | refine z7 ?_); conv => whnf) | exact True.intro)))
    refine cb (by rw [t1]) ?_
    ((conv => whnf); (repeat (first | ((first | refine z1 ?_ | refine z2 ?_ | refine z3 ?_ | refine idxB_at (by decide) rfl ?_ | refine atB_at (by decide) (by decide) ?_ | refine getB_lit _ rfl ?_ | refine z7 ?_); conv => whnf) | exact True.intro)))
    refine cb (by rw [t2]) ?_
    ((conv => whnf); (repeat (first | ((first | refine z1 ?_ | refine z2 ?_ | refine z3 ?_ | refine idxB_at (by decide) rfl ?_ | refine atB_at (by decide) (by decide) ?_ | refine getB_lit _ rfl ?_ | refine z7 ?_); conv => whnf) | exact True.intro)))
    refine .mk [] (k + 1) (by omega) (by omega) ?_
    rw [hnx]
    ((conv => whnf); (repeat (first | ((first | refine z1 ?_ | refine z2 ?_ | refine z3 ?_ | refine idxB_at (by decide) rfl ?_ | refine atB_at (by decide) (by decide) ?_ | refine getB_lit _ rfl ?_ | refine z7 ?_); conv => whnf) | exact True.intro)))
    refine cb (by rw [n3, t3]) ?_
    ((conv => whnf); (repeat (first | ((first | refine z1 ?_ | refine z2 ?_ | refine z3 ?_ | refine idxB_at (by decide) rfl ?_ | refine atB_at (by decide) (by decide) ?_ | refine getB_lit _ rfl ?_ | refine z7 ?_); conv => whnf) | exact True.intro)))
    refine cb (by rw [n1, t1]) ?_
    ((conv => whnf); (repeat (first | ((first | refine z1 ?_ | refine z2 ?_ | refine z3 ?_ | refine idxB_at (by decide) rfl ?_ | refine atB_at (by decide) (by decide) ?_ | refine getB_lit _ rfl ?_ | refine z7 ?_); conv => whnf) | exact True.intro)))
    refine cb (by rw [n2, t2]) ?_
    ((conv => whnf); (repeat (first | ((first | refine z1 ?_ | refine z2 ?_ | refine z3 ?_ | refine idxB_at (by decide) rfl ?_ | refine atB_at (by decide) (by decide) ?_ | refine getB_lit _ rfl ?_ | refine z7 ?_); conv => whnf) | exact True.intro)))
  · have e : k = l.length := by simp at u; omega
    subst e
    rw [List.take_length] at *
    refine .mk [] ?_
    ((conv => whnf); (repeat (first | ((first | refine z1 ?_ | refine z2 ?_ | refine z3 ?_ | refine idxB_at (by decide) rfl ?_ | refine atB_at (by decide) (by decide) ?_ | refine getB_lit _ rfl ?_ | refine z7 ?_); conv => whnf) | exact True.intro)))
    refine cb (by show _ = List.map Acc.row (s.m.touches th l).log; rw [t3]) ?_
    ((conv => whnf); (repeat (first | ((first | refine z1 ?_ | refine z2 ?_ | refine z3 ?_ | refine idxB_at (by decide) rfl ?_ | refine atB_at (by decide) (by decide) ?_ | refine getB_lit _ rfl ?_ | refine z7 ?_); conv => whnf) | exact True.intro)))
    refine cb (by show _ = List.map intD (s.m.touches th l).words; rw [t1]) ?_
    ((conv => whnf); (repeat (first | ((first | refine z1 ?_ | refine z2 ?_ | refine z3 ?_ | refine idxB_at (by decide) rfl ?_ | refine atB_at (by decide) (by decide) ?_ | refine getB_lit _ rfl ?_ | refine z7 ?_); conv => whnf) | exact True.intro)))
    refine cb (by show _ = List.map mtxRow (s.m.touches th l).mtx; rw [t2]) ?_
    ((conv => whnf); (repeat (first | ((first | refine z1 ?_ | refine z2 ?_ | refine z3 ?_ | refine idxB_at (by decide) rfl ?_ | refine atB_at (by decide) (by decide) ?_ | refine getB_lit _ rfl ?_ | refine z7 ?_); conv => whnf) | exact True.intro)))
theorem setC (s : Sto) (i : Nat) (x : Slt) (h : i < s.slots.length) (hl : s.slots.length < 1000000) : LSpec Tryz.prog 82 [.p 0 10 0 0, V.int i, x.v] (stoB s 2) 5 (.tup []) (stoB { s with slots := s.slots.set i x } 2) 5 := by
  refine lspec tab_ok mix Tryz.func82 (by kernel_rfl) (by rfl) (by rfl) (by rfl) (by rfl) ?_
  ((conv => whnf); (repeat (first | ((first | refine z1 ?_ | refine z2 ?_ | refine z3 ?_ | refine idxB_at (by decide) rfl ?_ | refine atB_at (by decide) (by decide) ?_ | refine getB_lit _ rfl ?_ | refine z7 ?_); conv => whnf) | exact True.intro)))
  refine callL (cloneSlts s.slots (by omega)) [] [] rfl ?_
  ((conv => whnf); (repeat (first | ((first | refine z1 ?_ | refine z2 ?_ | refine z3 ?_ | refine idxB_at (by decide) rfl ?_ | refine atB_at (by decide) (by decide) ?_ | refine getB_lit _ rfl ?_ | refine z7 ?_); conv => whnf) | exact True.intro)))
  refine atB h ?_
  ((conv => whnf); (repeat (first | ((first | refine z1 ?_ | refine z2 ?_ | refine z3 ?_ | refine idxB_at (by decide) rfl ?_ | refine atB_at (by decide) (by decide) ?_ | refine getB_lit _ rfl ?_ | refine z7 ?_); conv => whnf) | exact True.intro)))
  refine getB (show s.slots[i]? = some s.slots[i] by simp [h]) ?_
  ((conv => whnf); (repeat (first | ((first | refine z1 ?_ | refine z2 ?_ | refine z3 ?_ | refine idxB_at (by decide) rfl ?_ | refine atB_at (by decide) (by decide) ?_ | refine getB_lit _ rfl ?_ | refine z7 ?_); conv => whnf) | exact True.intro)))
  refine .mk [] ?_
  ((conv => whnf); (repeat (first | ((first | refine z1 ?_ | refine z2 ?_ | refine z3 ?_ | refine idxB_at (by decide) rfl ?_ | refine atB_at (by decide) (by decide) ?_ | refine getB_lit _ rfl ?_ | refine z7 ?_); conv => whnf) | exact True.intro)))
  exact cb ⟨by simp, by rw [List.map_set]; rfl⟩ (by ((conv => whnf); (repeat (first | ((first | refine z1 ?_ | refine z2 ?_ | refine z3 ?_ | refine idxB_at (by decide) rfl ?_ | refine atB_at (by decide) (by decide) ?_ | refine getB_lit _ rfl ?_ | refine z7 ?_); conv => whnf) | exact True.intro))))
theorem generationAtC (s : Sto) (i : Nat) (h : i + 1 < s.m.words.length) (hf : s.m.Fits) : LSpec Tryz.prog 83 [.p 0 10 0 0, V.int i] (stoB s 2) 5 (V.int (s.m.word (i + 1) / 4)) (stoB s 2) 5 := by
  have hw := hf.words
  refine lspec tab_ok mix Tryz.func83 (by kernel_rfl) (by rfl) (by rfl) (by rfl) (by rfl) ?_
  ((conv => whnf); (repeat (first | ((first | refine z1 ?_ | refine z2 ?_ | refine z3 ?_ | refine idxB_at (by decide) rfl ?_ | refine atB_at (by decide) (by decide) ?_ | refine getB_lit _ rfl ?_ | refine z7 ?_); conv => whnf) | exact True.intro)))
  rw [show (1 + (i : Int)) = ((i + 1 : Nat) : Int) by omega]
  refine callL (wordAtC s.m (i + 1) h hf) [some 1, some 2, some 3, some 4] [] rfl ?_
  ((conv => whnf); (repeat (first | ((first | refine z1 ?_ | refine z2 ?_ | refine z3 ?_ | refine idxB_at (by decide) rfl ?_ | refine atB_at (by decide) (by decide) ?_ | refine getB_lit _ rfl ?_ | refine z7 ?_); conv => whnf) | exact True.intro)))
  refine callB (genC _) ?_
  ((conv => whnf); (repeat (first | ((first | refine z1 ?_ | refine z2 ?_ | refine z3 ?_ | refine idxB_at (by decide) rfl ?_ | refine atB_at (by decide) (by decide) ?_ | refine getB_lit _ rfl ?_ | refine z7 ?_); conv => whnf) | exact True.intro)))
  refine .mk [] ?_
  ((conv => whnf); (repeat (first | ((first | refine z1 ?_ | refine z2 ?_ | refine z3 ?_ | refine idxB_at (by decide) rfl ?_ | refine atB_at (by decide) (by decide) ?_ | refine getB_lit _ rfl ?_ | refine z7 ?_); conv => whnf) | exact True.intro)))
end Go.Proofs.YtajgcanfngcfhaaGreat.Abs
