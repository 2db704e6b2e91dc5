/- The fixed examples of law11. -/
import Derived.Test.YtajgcanfngcfhaaGreatH15
namespace Go.Proofs.YtajgcanfngcfhaaGreat.Abs
open Go.Proofs
set_option maxRecDepth 10000
set_option linter.unusedSimpArgs false
set_option linter.unusedVariables false
theorem newArenaNo (n : Int) (h : n < 1 ∨ 64 < n) : PSpec Tryz.prog 124 [V.int n] (.tup [.agg [sltsV [], intsV [], V.int 0], V.int 1]) := by
  refine pspec tab_ok mix Tryz.func124 (by kernel_rfl) rfl rfl ?_
  ((conv => whnf); (repeat (first | ((first | refine z1 ?_ | refine z2 ?_ | refine z3 ?_ | refine idxB_at (by decide) rfl ?_ | refine atB_at (by decide) (by decide) ?_ | refine getB_lit _ rfl ?_ | refine z7 ?_); conv => whnf) | exact True.intro)))
  by_cases h1 : n < 1
  · rw [decide_eq_true h1]
    ((conv => whnf); (repeat (first | ((first | refine z1 ?_ | refine z2 ?_ | refine z3 ?_ | refine idxB_at (by decide) rfl ?_ | refine atB_at (by decide) (by decide) ?_ | refine getB_lit _ rfl ?_ | refine z7 ?_); conv => whnf) | exact True.intro)))
    refine frzK ?_
    ((conv => whnf); (repeat (first | ((first | refine z1 ?_ | refine z2 ?_ | refine z3 ?_ | refine idxB_at (by decide) rfl ?_ | refine atB_at (by decide) (by decide) ?_ | refine getB_lit _ rfl ?_ | refine z7 ?_); conv => whnf) | exact True.intro)))
  · rw [decide_eq_false h1]
    ((conv => whnf); (repeat (first | ((first | refine z1 ?_ | refine z2 ?_ | refine z3 ?_ | refine idxB_at (by decide) rfl ?_ | refine atB_at (by decide) (by decide) ?_ | refine getB_lit _ rfl ?_ | refine z7 ?_); conv => whnf) | exact True.intro)))
    rw [decide_eq_true (h.resolve_left h1)]
    ((conv => whnf); (repeat (first | ((first | refine z1 ?_ | refine z2 ?_ | refine z3 ?_ | refine idxB_at (by decide) rfl ?_ | refine atB_at (by decide) (by decide) ?_ | refine getB_lit _ rfl ?_ | refine z7 ?_); conv => whnf) | exact True.intro)))
    refine frzK ?_
    ((conv => whnf); (repeat (first | ((first | refine z1 ?_ | refine z2 ?_ | refine z3 ?_ | refine idxB_at (by decide) rfl ?_ | refine atB_at (by decide) (by decide) ?_ | refine getB_lit _ rfl ?_ | refine z7 ?_); conv => whnf) | exact True.intro)))
theorem newStoNo (n : Int) (h : n < 1 ∨ 64 < n) : PSpec Tryz.prog 71 [V.int n] (.c (.pointer none)) := by
  refine pspec tab_ok mix Tryz.func71 (by kernel_rfl) rfl rfl ?_
  ((conv => whnf); (repeat (first | ((first | refine z1 ?_ | refine z2 ?_ | refine z3 ?_ | refine idxB_at (by decide) rfl ?_ | refine atB_at (by decide) (by decide) ?_ | refine getB_lit _ rfl ?_ | refine z7 ?_); conv => whnf) | exact True.intro)))
  refine callB (newArenaNo n h) ?_
  ((conv => whnf); (repeat (first | ((first | refine z1 ?_ | refine z2 ?_ | refine z3 ?_ | refine idxB_at (by decide) rfl ?_ | refine atB_at (by decide) (by decide) ?_ | refine getB_lit _ rfl ?_ | refine z7 ?_); conv => whnf) | exact True.intro)))
  exact .same rfl
set_option maxHeartbeats 4000000 in
theorem head11_aux (s0 s1 s2 s3 s4 s5 s6 s7 s8 : Sto) (L : List Item) (ps : List Slt) (c0 : LSpec Tryz.prog 18 [V.int 2] [] 0 (.p 0 10 0 0) (stoB s0 2) 5)
    (a1 : LSpec Tryz.prog 24 [.p 0 10 0 0, V.int 0, V.int 5] (stoB s0 2) 5 (.tup [V.int 0, V.bool true]) (stoB s1 5) 6)
    (a2 : LSpec Tryz.prog 32 [.p 0 10 0 0, V.int 0, V.int 0] (stoB s1 2) 5 (.tup []) (stoB s2 2) 5)
    (a3 : LSpec Tryz.prog 23 [.p 0 10 0 0, V.int 0] (stoB s2 2) 5 (.tup [Item.v ⟨5, 0, 0⟩, V.bool true]) (stoB s3 5) 6)
    (a4 : LSpec Tryz.prog 31 [.p 0 4 0 0, V.int 0] (memB s3.m 1) 4 (V.int 6) (memB s3.m 1) 4)
    (a5 : LSpec Tryz.prog 24 [.p 0 10 0 0, V.int 0, V.int 3] (stoB s3 2) 5 (.tup [V.int 1, V.bool true]) (stoB s4 5) 6)
    (a6 : LSpec Tryz.prog 24 [.p 0 10 0 0, V.int 0, V.int 9] (stoB s4 2) 5 (.tup [V.int 0, V.bool false]) (stoB s4 5) 6)
    (a7 : LSpec Tryz.prog 32 [.p 0 10 0 0, V.int 0, V.int 1] (stoB s4 2) 5 (.tup []) (stoB s5 2) 5)
    (a8 : LSpec Tryz.prog 23 [.p 0 10 0 0, V.int 0] (stoB s5 2) 5 (.tup [Item.v ⟨3, 1, 1⟩, V.bool true]) (stoB s6 5) 6)
    (a9 : LSpec Tryz.prog 34 [.p 0 10 0 0, V.int 0] (stoB s6 2) 5 (.tup []) (stoB s7 5) 6)
    (a10 : LSpec Tryz.prog 72 [.p 0 10 0 0, V.int 0, V.int 1] (stoB s7 2) 5 (.tup []) (stoB s8 5) 6)
    (a11 : LSpec Tryz.prog 25 [.p 0 10 0 0] (stoB s8 2) 5 (arenaV ps s8.idle s8.next) (stoB s8 2) 5)
    (a12 : LSpec Tryz.prog 26 [.p 0 10 0 0] (stoB s8 2) 5 (itemsV L) (stoB s8 2) 5) (e12 : L.length = 1)
    (a13 : LSpec Tryz.prog 22 [.p 0 10 0 0, V.int 1, V.int 5] (stoB s8 2) 5 (V.bool false) (stoB (s8.touch 1 [1]) 2) 5)
    (e1 : ps.length = 2) (p0 : Slt) (p1 : Slt) (g0 : ps[0]? = some p0) (g1 : ps[1]? = some p1) (e2 : p1.gen = 1) (e3 : p0.state = 1) (e4 : s8.m.viol = 0) (e5 : s8.slots.length = 2) (e6 : (s8.touch 1 [1]).m.viol = 1) :
    PSpec Tryz.prog 17 [] (V.bool true) := by
  have n1 := newStoNo 0 (by omega)
  have n2 := newStoNo 65 (by omega)
  have hv := violC s8.m
  rw [e4] at hv
  have hc := capacityC s8
  rw [e5] at hc
  have hv2 := violC (s8.touch 1 [1]).m
  rw [e6] at hv2
  generalize s8.touch 1 [1] = s9 at *
  refine pspec tab_ok mix Tryz.func17 (by kernel_rfl) rfl rfl ?_
  ((conv => whnf); (repeat (first | ((first | refine z1 ?_ | refine z2 ?_ | refine z3 ?_ | refine idxB_at (by decide) rfl ?_ | refine atB_at (by decide) (by decide) ?_ | refine getB_lit _ rfl ?_ | refine z7 ?_); conv => whnf) | exact True.intro)))
  refine callL c0 [] [] rfl ?_
  ((conv => whnf); (repeat (first | ((first | refine z1 ?_ | refine z2 ?_ | refine z3 ?_ | refine idxB_at (by decide) rfl ?_ | refine atB_at (by decide) (by decide) ?_ | refine getB_lit _ rfl ?_ | refine z7 ?_); conv => whnf) | exact True.intro)))
  refine callB n1 ?_
  ((conv => whnf); (repeat (first | ((first | refine z1 ?_ | refine z2 ?_ | refine z3 ?_ | refine idxB_at (by decide) rfl ?_ | refine atB_at (by decide) (by decide) ?_ | refine getB_lit _ rfl ?_ | refine z7 ?_); conv => whnf) | exact True.intro)))
  refine callB n2 ?_
  ((conv => whnf); (repeat (first | ((first | refine z1 ?_ | refine z2 ?_ | refine z3 ?_ | refine idxB_at (by decide) rfl ?_ | refine atB_at (by decide) (by decide) ?_ | refine getB_lit _ rfl ?_ | refine z7 ?_); conv => whnf) | exact True.intro)))
  refine callL a1 [some 64, some 65, some 66, some 67, some 68] [] rfl ?_
  ((conv => whnf); (repeat (first | ((first | refine z1 ?_ | refine z2 ?_ | refine z3 ?_ | refine idxB_at (by decide) rfl ?_ | refine atB_at (by decide) (by decide) ?_ | refine getB_lit _ rfl ?_ | refine z7 ?_); conv => whnf) | exact True.intro)))
  refine callL a2 [some 64, some 65, some 896, some 67, some 68] [] rfl ?_
  ((conv => whnf); (repeat (first | ((first | refine z1 ?_ | refine z2 ?_ | refine z3 ?_ | refine idxB_at (by decide) rfl ?_ | refine atB_at (by decide) (by decide) ?_ | refine getB_lit _ rfl ?_ | refine z7 ?_); conv => whnf) | exact True.intro)))
  refine callL a3 [some 64, some 65, some 896, some 67, some 68] [] rfl ?_
  ((conv => whnf); (repeat (first | ((first | refine z1 ?_ | refine z2 ?_ | refine z3 ?_ | refine idxB_at (by decide) rfl ?_ | refine atB_at (by decide) (by decide) ?_ | refine getB_lit _ rfl ?_ | refine z7 ?_); conv => whnf) | exact True.intro)))
  refine callL (memoryC s3) [some 64, some 65, some 1472, some 67, some 68] [] rfl ?_
  ((conv => whnf); (repeat (first | ((first | refine z1 ?_ | refine z2 ?_ | refine z3 ?_ | refine idxB_at (by decide) rfl ?_ | refine atB_at (by decide) (by decide) ?_ | refine getB_lit _ rfl ?_ | refine z7 ?_); conv => whnf) | exact True.intro)))
  refine callL a4 [some 65, some 1472, some 67, some 68] [] rfl ?_
  ((conv => whnf); (repeat (first | ((first | refine z1 ?_ | refine z2 ?_ | refine z3 ?_ | refine idxB_at (by decide) rfl ?_ | refine atB_at (by decide) (by decide) ?_ | refine getB_lit _ rfl ?_ | refine z7 ?_); conv => whnf) | exact True.intro)))
  refine callL a5 [some 64, some 65, some 1472, some 67, some 68] [] rfl ?_
  ((conv => whnf); (repeat (first | ((first | refine z1 ?_ | refine z2 ?_ | refine z3 ?_ | refine idxB_at (by decide) rfl ?_ | refine atB_at (by decide) (by decide) ?_ | refine getB_lit _ rfl ?_ | refine z7 ?_); conv => whnf) | exact True.intro)))
  refine callL a6 [some 64, some 65, some 2240, some 67, some 68] [] rfl ?_
  ((conv => whnf); (repeat (first | ((first | refine z1 ?_ | refine z2 ?_ | refine z3 ?_ | refine idxB_at (by decide) rfl ?_ | refine atB_at (by decide) (by decide) ?_ | refine getB_lit _ rfl ?_ | refine z7 ?_); conv => whnf) | exact True.intro)))
  refine callL a7 [some 64, some 65, some 2688, some 67, some 68] [] rfl ?_
  ((conv => whnf); (repeat (first | ((first | refine z1 ?_ | refine z2 ?_ | refine z3 ?_ | refine idxB_at (by decide) rfl ?_ | refine atB_at (by decide) (by decide) ?_ | refine getB_lit _ rfl ?_ | refine z7 ?_); conv => whnf) | exact True.intro)))
  refine callL a8 [some 64, some 65, some 2688, some 67, some 68] [] rfl ?_
  ((conv => whnf); (repeat (first | ((first | refine z1 ?_ | refine z2 ?_ | refine z3 ?_ | refine idxB_at (by decide) rfl ?_ | refine atB_at (by decide) (by decide) ?_ | refine getB_lit _ rfl ?_ | refine z7 ?_); conv => whnf) | exact True.intro)))
  refine callL a9 [some 64, some 65, some 3264, some 67, some 68] [] rfl ?_
  ((conv => whnf); (repeat (first | ((first | refine z1 ?_ | refine z2 ?_ | refine z3 ?_ | refine idxB_at (by decide) rfl ?_ | refine atB_at (by decide) (by decide) ?_ | refine getB_lit _ rfl ?_ | refine z7 ?_); conv => whnf) | exact True.intro)))
  refine callL a10 [some 64, some 65, some 3776, some 67, some 68] [] rfl ?_
  ((conv => whnf); (repeat (first | ((first | refine z1 ?_ | refine z2 ?_ | refine z3 ?_ | refine idxB_at (by decide) rfl ?_ | refine atB_at (by decide) (by decide) ?_ | refine getB_lit _ rfl ?_ | refine z7 ?_); conv => whnf) | exact True.intro)))
  refine callL a11 [some 64, some 65, some 3904, some 67, some 68] [] rfl ?_
  ((conv => whnf); (repeat (first | ((first | refine z1 ?_ | refine z2 ?_ | refine z3 ?_ | refine idxB_at (by decide) rfl ?_ | refine atB_at (by decide) (by decide) ?_ | refine getB_lit _ rfl ?_ | refine z7 ?_); conv => whnf) | exact True.intro)))
  rw [show (!decide (((ps.map Slt.row).length : Int) = 2)) = false by simp [e1]]
  ((conv => whnf); (repeat (first | ((first | refine z1 ?_ | refine z2 ?_ | refine z3 ?_ | refine idxB_at (by decide) rfl ?_ | refine atB_at (by decide) (by decide) ?_ | refine getB_lit _ rfl ?_ | refine z7 ?_); conv => whnf) | exact True.intro)))
  refine eqB [true, true, true] (by kernel_rfl) rfl rfl rfl ?_
  ((conv => whnf); (repeat (first | ((first | refine z1 ?_ | refine z2 ?_ | refine z3 ?_ | refine idxB_at (by decide) rfl ?_ | refine atB_at (by decide) (by decide) ?_ | refine getB_lit _ rfl ?_ | refine z7 ?_); conv => whnf) | exact True.intro)))
  refine eqB [true, true, true] (by kernel_rfl) rfl rfl rfl ?_
  ((conv => whnf); (repeat (first | ((first | refine z1 ?_ | refine z2 ?_ | refine z3 ?_ | refine idxB_at (by decide) rfl ?_ | refine atB_at (by decide) (by decide) ?_ | refine getB_lit _ rfl ?_ | refine z7 ?_); conv => whnf) | exact True.intro)))
  refine idxB_eq 1 p1 rfl g1 ?_
  ((conv => whnf); (repeat (first | ((first | refine z1 ?_ | refine z2 ?_ | refine z3 ?_ | refine idxB_at (by decide) rfl ?_ | refine atB_at (by decide) (by decide) ?_ | refine getB_lit _ rfl ?_ | refine z7 ?_); conv => whnf) | exact True.intro)))
  rw [decide_eq_true e2]
  ((conv => whnf); (repeat (first | ((first | refine z1 ?_ | refine z2 ?_ | refine z3 ?_ | refine idxB_at (by decide) rfl ?_ | refine atB_at (by decide) (by decide) ?_ | refine getB_lit _ rfl ?_ | refine z7 ?_); conv => whnf) | exact True.intro)))
  refine idxB_eq 0 p0 rfl g0 ?_
  ((conv => whnf); (repeat (first | ((first | refine z1 ?_ | refine z2 ?_ | refine z3 ?_ | refine idxB_at (by decide) rfl ?_ | refine atB_at (by decide) (by decide) ?_ | refine getB_lit _ rfl ?_ | refine z7 ?_); conv => whnf) | exact True.intro)))
  rw [decide_eq_true e3]
  ((conv => whnf); (repeat (first | ((first | refine z1 ?_ | refine z2 ?_ | refine z3 ?_ | refine idxB_at (by decide) rfl ?_ | refine atB_at (by decide) (by decide) ?_ | refine getB_lit _ rfl ?_ | refine z7 ?_); conv => whnf) | exact True.intro)))
  refine callL a12 [some 64, some 65, some 3904, some 67, some 68] [] rfl ?_
  ((conv => whnf); (repeat (first | ((first | refine z1 ?_ | refine z2 ?_ | refine z3 ?_ | refine idxB_at (by decide) rfl ?_ | refine atB_at (by decide) (by decide) ?_ | refine getB_lit _ rfl ?_ | refine z7 ?_); conv => whnf) | exact True.intro)))
  rw [show decide (((L.map Item.row).length : Int) = 1) = true by simp [e12]]
  ((conv => whnf); (repeat (first | ((first | refine z1 ?_ | refine z2 ?_ | refine z3 ?_ | refine idxB_at (by decide) rfl ?_ | refine atB_at (by decide) (by decide) ?_ | refine getB_lit _ rfl ?_ | refine z7 ?_); conv => whnf) | exact True.intro)))
  refine callL (memoryC s8) [some 64, some 65, some 3904, some 67, some 68] [] rfl ?_
  ((conv => whnf); (repeat (first | ((first | refine z1 ?_ | refine z2 ?_ | refine z3 ?_ | refine idxB_at (by decide) rfl ?_ | refine atB_at (by decide) (by decide) ?_ | refine getB_lit _ rfl ?_ | refine z7 ?_); conv => whnf) | exact True.intro)))
  refine callL hv [some 65, some 3904, some 67, some 68] [] rfl ?_
  ((conv => whnf); (repeat (first | ((first | refine z1 ?_ | refine z2 ?_ | refine z3 ?_ | refine idxB_at (by decide) rfl ?_ | refine atB_at (by decide) (by decide) ?_ | refine getB_lit _ rfl ?_ | refine z7 ?_); conv => whnf) | exact True.intro)))
  refine callL hc [some 64, some 65, some 3904, some 67, some 68] [] rfl ?_
  ((conv => whnf); (repeat (first | ((first | refine z1 ?_ | refine z2 ?_ | refine z3 ?_ | refine idxB_at (by decide) rfl ?_ | refine atB_at (by decide) (by decide) ?_ | refine getB_lit _ rfl ?_ | refine z7 ?_); conv => whnf) | exact True.intro)))
  refine callL a13 [some 64, some 65, some 3904, some 67, some 68] [] rfl ?_
  ((conv => whnf); (repeat (first | ((first | refine z1 ?_ | refine z2 ?_ | refine z3 ?_ | refine idxB_at (by decide) rfl ?_ | refine atB_at (by decide) (by decide) ?_ | refine getB_lit _ rfl ?_ | refine z7 ?_); conv => whnf) | exact True.intro)))
  refine callL (memoryC s9) [some 64, some 65, some 3904, some 67, some 68] [] rfl ?_
  ((conv => whnf); (repeat (first | ((first | refine z1 ?_ | refine z2 ?_ | refine z3 ?_ | refine idxB_at (by decide) rfl ?_ | refine atB_at (by decide) (by decide) ?_ | refine getB_lit _ rfl ?_ | refine z7 ?_); conv => whnf) | exact True.intro)))
  refine callL hv2 [some 65, some 3904, some 67, some 68] [] rfl ?_
  ((conv => whnf); (repeat (first | ((first | refine z1 ?_ | refine z2 ?_ | refine z3 ?_ | refine idxB_at (by decide) rfl ?_ | refine atB_at (by decide) (by decide) ?_ | refine getB_lit _ rfl ?_ | refine z7 ?_); conv => whnf) | exact True.intro)))
  exact .same rfl
theorem SB.putH {n : Nat} {s : Sto} {S : List Item} {A : Nat → Prop} {K : Nat} (h : SB n s S A K) (hK : K + 1 ≤ 20000) (hh : s.all4 0) {i : Nat} (ha : A i) :
    SB n (s.put 0 i) (insI S (s.item i)) (fun j => A j ∧ j ≠ i) (K + 1) ∧ (s.put 0 i).all4 0 ∧ (s.put 0 i).m.viol = s.m.viol ∧ LSpec Tryz.prog 32 [.p 0 10 0 0, V.int 0, V.int i] (stoB s 2) 5 (.tup []) (stoB (s.put 0 i) 2) 5 := by
  obtain ⟨hi, _⟩ := h.hand i ha
  obtain ⟨p1, p2, _⟩ := h.toSOk.put 0 ha hK
  obtain ⟨r1, r2⟩ := h.rungs
  have hp := putSC s 0 i (by rw [h.ns]; exact hi) h.fits h.smallv (by rw [h.nm]; exact Nat.le_refl _) r1 r2 p2
  have hpl : ∀ j ∈ s.putL (s.slot i).time, j < 4 := fun j hj => by
    unfold Sto.putL at hj
    split at hj
    · simp at hj; omega
    · split at hj <;> simp at hj <;> omega
  have hpt : s.put 0 i = { s with q := insLad s.q (s.item i) } := by
    unfold Sto.put
    rw [Sto.touch_id (th := 0) fun j hj => hh j (hpl j hj)]
  rw [hpt] at hp p1 ⊢
  exact ⟨⟨p1, by have := h.log; show s.m.log.length ≤ _; omega, by have := h.viol; show 0 ≤ s.m.viol ∧ s.m.viol ≤ _; push_cast; omega⟩, hh, rfl, hp⟩
theorem SB.allocH {n : Nat} {s : Sto} {S : List Item} {A : Nat → Prop} {K : Nat} (h : SB n s S A K) (hK : K + 1 ≤ 20000) (hh : s.all4 0) (t : Int) (ht : 0 ≤ t ∧ t ≤ 1152921504606846976) {l : List Int} {i : Nat} (hid : s.idle = l ++ [(i : Int)]) (hi : i < n) :
    SB n (s.alloc1 0 t l i) S (fun j => A j ∨ j = i) (K + 1) ∧ (s.alloc1 0 t l i).all4 0 ∧ LSpec Tryz.prog 24 [.p 0 10 0 0, V.int 0, V.int t] (stoB s 2) 5 (.tup [V.int (64 * s.gn i + i), V.bool true]) (stoB (s.alloc1 0 t l i) 5) 6 := by
  have h3 : s.touch 0 [3] = s := Sto.touch_id (th := 0) (l := [3]) (fun j hj => hh j (by simp at hj; omega))
  have hnm : 4 ≤ s.m.mtx.length := by rw [h.nm]; exact Nat.le_refl _
  have hn := h.n12
  have hkb := h.kb
  have hwd := h.wd i hi
  have hg : 0 ≤ s.m.word (i + 1) / 4 ∧ s.m.word (i + 1) / 4 ≤ K := ⟨by omega, hwd.2⟩
  have ha := allocC s 0 t l i hid h.fits h.smallv hnm (by rw [h.ns]; exact hi) (by rw [h.nw]; omega) (by omega) ⟨hg.1, by omega⟩
  rw [h3] at ha
  obtain ⟨a1, _⟩ := h.toSOk.alloc 0 t ht hid hi hK
  exact ⟨⟨a1, by have := h.log; simp [Sto.alloc1, Mem.store, Mem.put]; omega, by have := h.viol; show 0 ≤ s.m.viol ∧ s.m.viol ≤ _; push_cast; omega⟩, hh, ha⟩
theorem SB.peekH {n : Nat} {s : Sto} {S : List Item} {A : Nat → Prop} {K : Nat} (h : SB n s S A K) (hK : K + 1 ≤ 20000) (hh : s.all4 0) :
    SB n (s.take 0 (fillG s.q)) S A (K + 1) ∧ (s.take 0 (fillG s.q)).all4 0 ∧ (s.take 0 (fillG s.q)).m.viol = s.m.viol ∧ LSpec Tryz.prog 23 [.p 0 10 0 0, V.int 0] (stoB s 2) 5 (.tup [(headI S).v, V.bool (decide (S ≠ []))]) (stoB (s.take 0 (fillG s.q)) 5) 6 := by
  obtain ⟨p1, p2⟩ := h.firstP
  obtain ⟨b1, b2, b3⟩ := h.take hK hh (h.toSOk.peek 0)
  exact ⟨b1, b2, b3, peekSC s 0 p1 h.fits h.smallv (by rw [h.nm]; exact Nat.le_refl _) (by rw [h.nw]; omega)⟩
theorem SB.dropH {n : Nat} {s : Sto} {x : Item} {T : List Item} {A : Nat → Prop} {K : Nat} (h : SB n s (x :: T) A K) (hK : K + 1 ≤ 20000) (hh : s.all4 0) :
    ∃ i, i < n ∧ x = s.item i ∧ SB n (s.take 0 (popG s.q).1) T (fun j => A j ∨ j = i) (K + 1) ∧ (s.take 0 (popG s.q).1).all4 0 ∧ (s.take 0 (popG s.q).1).m.viol = s.m.viol ∧ LSpec Tryz.prog 34 [.p 0 10 0 0, V.int 0] (stoB s 2) 5 (.tup []) (stoB (s.take 0 (popG s.q).1) 5) 6 := by
  obtain ⟨p1, p2⟩ := h.firstP
  obtain ⟨i, hi, hxi, _, _, ht⟩ := h.toSOk.drop 0
  obtain ⟨b1, b2, b3⟩ := h.take hK hh ht
  exact ⟨i, hi, hxi, b1, b2, b3, dropSC s 0 p2 h.fits h.smallv (by rw [h.nm]; exact Nat.le_refl _) (by rw [h.nw]; omega)⟩
theorem SB.freeH {n : Nat} {s : Sto} {S : List Item} {A : Nat → Prop} {K : Nat} (h : SB n s S A K) (hK : K + 1 ≤ 20000) (hh : s.all4 0) {i : Nat} (ha : A i) :
    SB n (s.free1 0 i) S (fun j => A j ∧ j ≠ i) (K + 1) ∧ (s.free1 0 i).all4 0 ∧ LSpec Tryz.prog 72 [.p 0 10 0 0, V.int 0, V.int i] (stoB s 2) 5 (.tup []) (stoB (s.free1 0 i) 5) 6 := by
  obtain ⟨hi, _⟩ := h.hand i ha
  have hwd := h.wd i hi
  have hkb := h.kb
  have hg : 0 ≤ s.m.word (i + 1) / 4 ∧ s.m.word (i + 1) / 4 ≤ K := ⟨by omega, hwd.2⟩
  have hf := freeC s 0 i h.fits h.smallv (by rw [h.nm]; exact Nat.le_refl _) (by rw [h.ns]; exact hi) (by rw [h.nw]; omega) ⟨hg.1, by omega⟩
  rw [Sto.touch_id (th := 0) (l := [3]) (fun j hj => hh j (by simp at hj; omega))] at hf
  obtain ⟨d1, _⟩ := h.toSOk.free 0 ha hK
  exact ⟨⟨d1, by have := h.log; simp [Sto.free1, Mem.store, Mem.put]; omega, by have := h.viol; show 0 ≤ s.m.viol ∧ s.m.viol ≤ _; push_cast; omega⟩, hh, hf⟩
theorem arenaH {n : Nat} {s : Sto} {S : List Item} {A : Nat → Prop} {K : Nat} (h : SB n s S A K) : LSpec Tryz.prog 25 [.p 0 10 0 0] (stoB s 2) 5 (arenaV s.pics s.idle s.next) (stoB s 2) 5 :=
  arenaC s h.fits (by rw [h.ns, h.nw]; omega) fun p hp => by
    have h1 := h.wd p (by rw [← h.ns]; exact hp)
    have h2 := h.kb
    unfold Sto.gn at h1
    omega
theorem itemsH {n : Nat} {s : Sto} {S : List Item} {A : Nat → Prop} {K : Nat} (h : SB n s S A K) : LSpec Tryz.prog 26 [.p 0 10 0 0] (stoB s 2) 5 (itemsV S) (stoB s 2) 5 := by
  obtain ⟨k1, k2, k3⟩ := h.small
  have := itemsC s k2 k1
  rw [k3] at this
  exact this
end Go.Proofs.YtajgcanfngcfhaaGreat.Abs
