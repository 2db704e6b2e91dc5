/- The store: allocating and freeing slots. -/
import Derived.Test.YtajgcanfngcfhaaGreatH5
namespace Go.Proofs.YtajgcanfngcfhaaGreat.Abs
open Go.Proofs
set_option maxRecDepth 10000
set_option linter.unusedSimpArgs false
set_option linter.unusedVariables false
/-- a slot taken from the idle ones -/
def Sto.alloc1 (s : Sto) (th t : Int) (idle : List Int) (i : Nat) : Sto :=
  { s with m := s.m.store th (i + 1) (4 * (s.m.word (i + 1) / 4) + 1), slots := s.slots.set i ⟨0, 0, t, s.next⟩, idle := idle, next := s.next + 1 }
theorem allocNo (s : Sto) (th t : Int) (h : s.idle = []) (hf : s.Fits) (hm : 4 ≤ s.m.mtx.length) : LSpec Tryz.prog 24 [.p 0 10 0 0, V.int th, V.int t] (stoB s 2) 5 (.tup [V.int 0, V.bool false]) (stoB (s.touch th [3]) 5) 6 := by
  have h1 : (s.touch th [3]).idle = [] := h
  refine lspec tab_ok mix Tryz.func24 (by kernel_rfl) (by rfl) (by rfl) (by rfl) (by rfl) ?_
  ((conv => whnf); (repeat (first | ((first | refine z1 ?_ | refine z2 ?_ | refine z3 ?_ | refine idxB_at (by decide) rfl ?_ | refine atB_at (by decide) (by decide) ?_ | refine getB_lit _ rfl ?_ | refine z7 ?_); conv => whnf) | exact True.intro)))
  refine callL (guardC s th [3] hf (by decide) (by simp <;> omega)) [some 0, some 1, some 2, some 3, some 4] [] rfl ?_
  generalize s.touch th [3] = s1 at *
  ((conv => whnf); (repeat (first | ((first | refine z1 ?_ | refine z2 ?_ | refine z3 ?_ | refine idxB_at (by decide) rfl ?_ | refine atB_at (by decide) (by decide) ?_ | refine getB_lit _ rfl ?_ | refine z7 ?_); conv => whnf) | exact True.intro)))
  rw [show decide (((s1.idle.map intD).length : Int) = 0) = true from decide_eq_true (by rw [h1]; rfl)]
  ((conv => whnf); (repeat (first | ((first | refine z1 ?_ | refine z2 ?_ | refine z3 ?_ | refine idxB_at (by decide) rfl ?_ | refine atB_at (by decide) (by decide) ?_ | refine getB_lit _ rfl ?_ | refine z7 ?_); conv => whnf) | exact True.intro)))
  refine .mk [(5, 2)] ?_
  ((conv => whnf); (repeat (first | ((first | refine z1 ?_ | refine z2 ?_ | refine z3 ?_ | refine idxB_at (by decide) rfl ?_ | refine atB_at (by decide) (by decide) ?_ | refine getB_lit _ rfl ?_ | refine z7 ?_); conv => whnf) | exact True.intro)))
theorem allocC (s : Sto) (th t : Int) (l : List Int) (i : Nat) (h : s.idle = l ++ [(i : Int)]) (hf : s.Fits) (hv : s.m.viol < 100000000) (hm : 4 ≤ s.m.mtx.length) (hi : i < s.slots.length) (hw : i + 1 < s.m.words.length) (h64 : i < 64)
    (hg : 0 ≤ s.m.word (i + 1) / 4 ∧ s.m.word (i + 1) / 4 ≤ 1099511627776) :
    LSpec Tryz.prog 24 [.p 0 10 0 0, V.int th, V.int t] (stoB s 2) 5 (.tup [V.int (64 * (s.m.word (i + 1) / 4) + i), V.bool true]) (stoB ((s.touch th [3]).alloc1 th t l i) 5) 6 := by
  have hf1 := Sto.touch_fits hf th [3] (by simp; omega)
  obtain ⟨t1, t2, t3, t4, t5⟩ := touches_same th [3] s.m
  have h1 : (s.touch th [3]).idle = l ++ [(i : Int)] := h
  have hi1 : i < (s.touch th [3]).slots.length := hi
  have hw1 : i + 1 < (s.touch th [3]).m.words.length := by show i + 1 < (s.m.touches th [3]).words.length; rw [t1]; exact hw
  have hwd : s.m.word (i + 1) = (s.touch th [3]).m.word (i + 1) := by
    show (s.m.words[i + 1]?).getD 0 = ((s.m.touches th [3]).words[i + 1]?).getD 0
    rw [t1]
  have hg1 := guardC s th [3] hf (by decide) (by simp <;> omega)
  rw [hwd] at hg ⊢
  clear t1 t2 t3 t4 t5 hwd hi hw h
  generalize s.touch th [3] = s1 at *
  have hid := hf1.idle
  have hnx := hf1.next
  have hget : s1.idle[l.length]? = some (i : Int) := by rw [h1]; simp
  have hlen : s1.idle.length = l.length + 1 := by rw [h1]; simp
  refine lspec tab_ok mix Tryz.func24 (by kernel_rfl) (by rfl) (by rfl) (by rfl) (by rfl) ?_
  ((conv => whnf); (repeat (first | ((first | refine z1 ?_ | refine z2 ?_ | refine z3 ?_ | refine idxB_at (by decide) rfl ?_ | refine atB_at (by decide) (by decide) ?_ | refine getB_lit _ rfl ?_ | refine z7 ?_); conv => whnf) | exact True.intro)))
  refine callL hg1 [some 0, some 1, some 2, some 3, some 4] [] rfl ?_
  ((conv => whnf); (repeat (first | ((first | refine z1 ?_ | refine z2 ?_ | refine z3 ?_ | refine idxB_at (by decide) rfl ?_ | refine atB_at (by decide) (by decide) ?_ | refine getB_lit _ rfl ?_ | refine z7 ?_); conv => whnf) | exact True.intro)))
  rw [show decide (((s1.idle.map intD).length : Int) = 0) = false from decide_eq_false (by simp only [List.length_map]; omega)]
  ((conv => whnf); (repeat (first | ((first | refine z1 ?_ | refine z2 ?_ | refine z3 ?_ | refine idxB_at (by decide) rfl ?_ | refine atB_at (by decide) (by decide) ?_ | refine getB_lit _ rfl ?_ | refine z7 ?_); conv => whnf) | exact True.intro)))
  refine wrB (by simp only [List.length_map]; omega) ?_
  ((conv => whnf); (repeat (first | ((first | refine z1 ?_ | refine z2 ?_ | refine z3 ?_ | refine idxB_at (by decide) rfl ?_ | refine atB_at (by decide) (by decide) ?_ | refine getB_lit _ rfl ?_ | refine z7 ?_); conv => whnf) | exact True.intro)))
  refine idxB_eq l.length i (by simp only [List.length_map]; omega) hget ?_
  ((conv => whnf); (repeat (first | ((first | refine z1 ?_ | refine z2 ?_ | refine z3 ?_ | refine idxB_at (by decide) rfl ?_ | refine atB_at (by decide) (by decide) ?_ | refine getB_lit _ rfl ?_ | refine z7 ?_); conv => whnf) | exact True.intro)))
  refine wrB (by simp only [List.length_map]; omega) ?_
  ((conv => whnf); (repeat (first | ((first | refine z1 ?_ | refine z2 ?_ | refine z3 ?_ | refine idxB_at (by decide) rfl ?_ | refine atB_at (by decide) (by decide) ?_ | refine getB_lit _ rfl ?_ | refine z7 ?_); conv => whnf) | exact True.intro)))
  refine slB 0 l.length rfl (by show _ = _; simp only [List.length_map]; omega) (by simp only [List.length_map]; omega) ?_
  rw [show ((s1.idle.map intD).drop 0).take (l.length - 0) = l.map intD by rw [h1]; simp]
  ((conv => whnf); (repeat (first | ((first | refine z1 ?_ | refine z2 ?_ | refine z3 ?_ | refine idxB_at (by decide) rfl ?_ | refine atB_at (by decide) (by decide) ?_ | refine getB_lit _ rfl ?_ | refine z7 ?_); conv => whnf) | exact True.intro)))
  refine callL (cloneInts l (by omega)) [] [] rfl ?_
  ((conv => whnf); (repeat (first | ((first | refine z1 ?_ | refine z2 ?_ | refine z3 ?_ | refine idxB_at (by decide) rfl ?_ | refine atB_at (by decide) (by decide) ?_ | refine getB_lit _ rfl ?_ | refine z7 ?_); conv => whnf) | exact True.intro)))
  refine callL (setC { s1 with idle := l } i ⟨0, 0, t, s1.next⟩ hi1 hf1.slots) [some 0, some 1, some 2, some 3, some 4] [2240] rfl ?_
  ((conv => whnf); (repeat (first | ((first | refine z1 ?_ | refine z2 ?_ | refine z3 ?_ | refine idxB_at (by decide) rfl ?_ | refine atB_at (by decide) (by decide) ?_ | refine getB_lit _ rfl ?_ | refine z7 ?_); conv => whnf) | exact True.intro)))
  refine wrB (by show -9223372036854775808 ≤ s1.next + 1 ∧ s1.next + 1 ≤ 9223372036854775807; omega) ?_
  ((conv => whnf); (repeat (first | ((first | refine z1 ?_ | refine z2 ?_ | refine z3 ?_ | refine idxB_at (by decide) rfl ?_ | refine atB_at (by decide) (by decide) ?_ | refine getB_lit _ rfl ?_ | refine z7 ?_); conv => whnf) | exact True.intro)))
  refine callL (generationAtC { s1 with idle := l, slots := s1.slots.set i ⟨0, 0, t, s1.next⟩, next := s1.next + 1 } i hw1 hf1.mem) [some 0, some 1, some 2, some 3, some 4] [] rfl ?_
  ((conv => whnf); (repeat (first | ((first | refine z1 ?_ | refine z2 ?_ | refine z3 ?_ | refine idxB_at (by decide) rfl ?_ | refine atB_at (by decide) (by decide) ?_ | refine getB_lit _ rfl ?_ | refine z7 ?_); conv => whnf) | exact True.intro)))
  refine dcallB (wordC (s1.m.word (i + 1) / 4) 1 ⟨⟨hg.1, by have := hg.2; omega⟩, by omega⟩) ?_
  ((conv => whnf); (repeat (first | ((first | refine z1 ?_ | refine z2 ?_ | refine z3 ?_ | refine idxB_at (by decide) rfl ?_ | refine atB_at (by decide) (by decide) ?_ | refine getB_lit _ rfl ?_ | refine z7 ?_); conv => whnf) | exact True.intro)))
  rw [show (1 + (i : Int)) = ((i + 1 : Nat) : Int) by omega]
  refine dcallL (storeC s1.m th (i + 1) (4 * (s1.m.word (i + 1) / 4) + 1) hw1 hf1.mem) [some 1, some 2, some 3, some 4] [] ?_
  ((conv => whnf); (repeat (first | ((first | refine z1 ?_ | refine z2 ?_ | refine z3 ?_ | refine idxB_at (by decide) rfl ?_ | refine atB_at (by decide) (by decide) ?_ | refine getB_lit _ rfl ?_ | refine z7 ?_); conv => whnf) | exact True.intro)))
  refine callB (makeC i (s1.m.word (i + 1) / 4) ⟨⟨hg.1, by have := hg.2; omega⟩, by omega⟩) ?_
  ((conv => whnf); (repeat (first | ((first | refine z1 ?_ | refine z2 ?_ | refine z3 ?_ | refine idxB_at (by decide) rfl ?_ | refine atB_at (by decide) (by decide) ?_ | refine getB_lit _ rfl ?_ | refine z7 ?_); conv => whnf) | exact True.intro)))
  refine .mk [(5, 4672)] ?_
  ((conv => whnf); (repeat (first | ((first | refine z1 ?_ | refine z2 ?_ | refine z3 ?_ | refine idxB_at (by decide) rfl ?_ | refine atB_at (by decide) (by decide) ?_ | refine getB_lit _ rfl ?_ | refine z7 ?_); conv => whnf) | exact True.intro)))
theorem clipIntsC (l : List Int) : PSpec Tryz.prog 127 [intsV l] (.lst 1 (l.map intD) true) := by
  refine pspec tab_ok mix Tryz.func127 (by kernel_rfl) rfl rfl ?_
  ((conv => whnf); (repeat (first | ((first | refine z1 ?_ | refine z2 ?_ | refine z3 ?_ | refine idxB_at (by decide) rfl ?_ | refine atB_at (by decide) (by decide) ?_ | refine getB_lit _ rfl ?_ | refine z7 ?_); conv => whnf) | exact True.intro)))
  refine slB 0 l.length rfl (by simp [isHi]) (by simp) ?_
  ((conv => whnf); (repeat (first | ((first | refine z1 ?_ | refine z2 ?_ | refine z3 ?_ | refine idxB_at (by decide) rfl ?_ | refine atB_at (by decide) (by decide) ?_ | refine getB_lit _ rfl ?_ | refine z7 ?_); conv => whnf) | exact True.intro)))
  exact .same (by rw [List.take_of_length_le (by simp)]; rfl)
/-- a slot given back -/
def Sto.free1 (s : Sto) (th : Int) (i : Nat) : Sto :=
  { s with m := s.m.store th (i + 1) (4 * (s.m.word (i + 1) / 4 + 1) + 0), slots := s.slots.set i ⟨0, 0, 0, 0⟩, idle := s.idle ++ [(i : Int)] }
theorem freeC (s : Sto) (th : Int) (i : Nat) (hf : s.Fits) (hv : s.m.viol < 100000000) (hm : 4 ≤ s.m.mtx.length) (hi : i < s.slots.length) (hw : i + 1 < s.m.words.length)
    (hg : 0 ≤ s.m.word (i + 1) / 4 ∧ s.m.word (i + 1) / 4 ≤ 1099511627776) :
    LSpec Tryz.prog 72 [.p 0 10 0 0, V.int th, V.int i] (stoB s 2) 5 (.tup []) (stoB ((s.touch th [3]).free1 th i) 5) 6 := by
  have hf1 := Sto.touch_fits hf th [3] (by simp; omega)
  obtain ⟨t1, t2, t3, t4, t5⟩ := touches_same th [3] s.m
  have hi1 : i < (s.touch th [3]).slots.length := hi
  have hw1 : i + 1 < (s.touch th [3]).m.words.length := by show i + 1 < (s.m.touches th [3]).words.length; rw [t1]; exact hw
  have hwd : s.m.word (i + 1) = (s.touch th [3]).m.word (i + 1) := by
    show (s.m.words[i + 1]?).getD 0 = ((s.m.touches th [3]).words[i + 1]?).getD 0
    rw [t1]
  have hg1 := guardC s th [3] hf (by decide) (by simp <;> omega)
  rw [hwd] at hg
  clear t1 t2 t3 t4 t5 hwd hi hw
  generalize s.touch th [3] = s1 at *
  have hid := hf1.idle
  have hsl := hf1.slots
  refine lspec tab_ok mix Tryz.func72 (by kernel_rfl) (by rfl) (by rfl) (by rfl) (by rfl) ?_
  ((conv => whnf); (repeat (first | ((first | refine z1 ?_ | refine z2 ?_ | refine z3 ?_ | refine idxB_at (by decide) rfl ?_ | refine atB_at (by decide) (by decide) ?_ | refine getB_lit _ rfl ?_ | refine z7 ?_); conv => whnf) | exact True.intro)))
  refine callL hg1 [some 0, some 1, some 2, some 3, some 4] [] rfl ?_
  ((conv => whnf); (repeat (first | ((first | refine z1 ?_ | refine z2 ?_ | refine z3 ?_ | refine idxB_at (by decide) rfl ?_ | refine atB_at (by decide) (by decide) ?_ | refine getB_lit _ rfl ?_ | refine z7 ?_); conv => whnf) | exact True.intro)))
  refine dcallR (generationAtC s1 i hw1 hf1.mem) [some 0, some 1, some 2, some 3, some 4] rfl rfl ?_
  ((conv => whnf); (repeat (first | ((first | refine z1 ?_ | refine z2 ?_ | refine z3 ?_ | refine idxB_at (by decide) rfl ?_ | refine atB_at (by decide) (by decide) ?_ | refine getB_lit _ rfl ?_ | refine z7 ?_); conv => whnf) | exact True.intro)))
  refine dcallB (wordC (s1.m.word (i + 1) / 4 + 1) 0 ⟨⟨by omega, by have := hg.2; omega⟩, by omega⟩) ?_
  ((conv => whnf); (repeat (first | ((first | refine z1 ?_ | refine z2 ?_ | refine z3 ?_ | refine idxB_at (by decide) rfl ?_ | refine atB_at (by decide) (by decide) ?_ | refine getB_lit _ rfl ?_ | refine z7 ?_); conv => whnf) | exact True.intro)))
  rw [show (1 + (i : Int)) = ((i + 1 : Nat) : Int) by omega]
  refine dcallL (storeC s1.m th (i + 1) (4 * (s1.m.word (i + 1) / 4 + 1) + 0) hw1 hf1.mem) [some 1, some 2, some 3, some 4] [] ?_
  ((conv => whnf); (repeat (first | ((first | refine z1 ?_ | refine z2 ?_ | refine z3 ?_ | refine idxB_at (by decide) rfl ?_ | refine atB_at (by decide) (by decide) ?_ | refine getB_lit _ rfl ?_ | refine z7 ?_); conv => whnf) | exact True.intro)))
  refine callL (setC { s1 with m := s1.m.store th (i + 1) (4 * (s1.m.word (i + 1) / 4 + 1) + 0) } i ⟨0, 0, 0, 0⟩ hi1 hsl) [some 0, some 1, some 1088, some 3, some 4] [] rfl ?_
  ((conv => whnf); (repeat (first | ((first | refine z1 ?_ | refine z2 ?_ | refine z3 ?_ | refine idxB_at (by decide) rfl ?_ | refine atB_at (by decide) (by decide) ?_ | refine getB_lit _ rfl ?_ | refine z7 ?_); conv => whnf) | exact True.intro)))
  refine callB (clipIntsC s1.idle) ?_
  ((conv => whnf); (repeat (first | ((first | refine z1 ?_ | refine z2 ?_ | refine z3 ?_ | refine idxB_at (by decide) rfl ?_ | refine atB_at (by decide) (by decide) ?_ | refine getB_lit _ rfl ?_ | refine z7 ?_); conv => whnf) | exact True.intro)))
  refine .mk [(5, 1088)] ?_
  ((conv => whnf); (repeat (first | ((first | refine z1 ?_ | refine z2 ?_ | refine z3 ?_ | refine idxB_at (by decide) rfl ?_ | refine atB_at (by decide) (by decide) ?_ | refine getB_lit _ rfl ?_ | refine z7 ?_); conv => whnf) | exact True.intro)))
  exact cb ⟨by simp [Sto.free1], by simp [Sto.free1, intD]⟩ (by ((conv => whnf); (repeat (first | ((first | refine z1 ?_ | refine z2 ?_ | refine z3 ?_ | refine idxB_at (by decide) rfl ?_ | refine atB_at (by decide) (by decide) ?_ | refine getB_lit _ rfl ?_ | refine z7 ?_); conv => whnf) | exact True.intro))))
end Go.Proofs.YtajgcanfngcfhaaGreat.Abs
