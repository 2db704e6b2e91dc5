/- The shared memory: accesses to words, a new memory, its log. -/
import Derived.Test.YtajgcanfngcfhaaGreatH2
namespace Go.Proofs.YtajgcanfngcfhaaGreat.Abs
open Go.Proofs
set_option maxRecDepth 10000
set_option linter.unusedSimpArgs false
set_option linter.unusedVariables false
section
variable {P : Program} {tab : Tab}
/-- make of a slice in a region of open order -/
theorem dmakeB (ht : TabOk P tab) {ty : TypeId} {l c : Operand} {t : List V} {h : List (Nat × B)} {b : Nat} {K : V → List (Nat × B) → Dyn → Prop} (n : Nat) (zr : List D) (ε : Ty) (hε : sliceElem tab ty = some ε) (hz : ZeroRow ε.zero zr) (hl : evS (tAt t) l = V.int n) (hc : evS (tAt t) c = V.int n)
    (hn : n < 2147483648) (hby : Nat.ble ε.bytes 4096 = true) (k : hSet h b (.dat ε.size (List.replicate n zr)) fun h => K (.ac b ε.size n) h ⟨[], [], [b], false⟩) : DOpB P (.makeSlice ty l c) t h b K := by
  obtain ⟨l', hk, e⟩ := hSet_of k
  refine ⟨_, .ac b ε.size n, [(b, some (.dat ε.size (List.replicate n zr)))], l', rfl, ⟨by simp [namesU], by simp, fun h2 he M hf hb => ?_⟩, e, hk⟩
  exact makeSlice_aop (M := M) ht (hf b (Nat.le_refl _) (by omega)) hε hl hc hn (Nat.le_of_ble_eq_true hby) hz ⟨rfl, rfl⟩
end
theorem store1C (v x : Int) : LSpec Tryz.prog 108 [V.int x, .p 0 1 0 0] [(0, .rows 1 [[V.int v]])] 1 (.tup [V.int v, V.bool true]) [(0, .rows 1 [[V.int v]])] 1 := by
  refine lspec tab_ok mix Tryz.func108 (by kernel_rfl) (by rfl) (by rfl) (by rfl) (by rfl) ?_
  ((conv => whnf); (repeat (first | ((first | refine z1 ?_ | refine z2 ?_ | refine z3 ?_ | refine idxB_at (by decide) rfl ?_ | refine atB_at (by decide) (by decide) ?_ | refine getB_lit _ rfl ?_ | refine z7 ?_); conv => whnf) | exact True.intro)))
  refine .mk [] ?_
  ((conv => whnf); (repeat (first | ((first | refine z1 ?_ | refine z2 ?_ | refine z3 ?_ | refine idxB_at (by decide) rfl ?_ | refine atB_at (by decide) (by decide) ?_ | refine getB_lit _ rfl ?_ | refine z7 ?_); conv => whnf) | exact True.intro)))
theorem cas1C (o n x : Int) : LSpec Tryz.prog 130 [V.int x, .p 0 1 0 0, .p 1 1 0 0] [(0, .rows 1 [[V.int o]]), (1, .rows 1 [[V.int n]])] 2
    (.tup [V.int (if x = o then n else x), V.bool (decide (x = o))]) [(0, .rows 1 [[V.int o]]), (1, .rows 1 [[V.int n]])] 2 := by
  by_cases h : x = o
  · rw [if_pos h, decide_eq_true h]
    refine lspec tab_ok mix Tryz.func130 (by kernel_rfl) (by rfl) (by rfl) (by rfl) (by rfl) ?_
    ((conv => whnf); (repeat (first | ((first | refine z1 ?_ | refine z2 ?_ | refine z3 ?_ | refine idxB_at (by decide) rfl ?_ | refine atB_at (by decide) (by decide) ?_ | refine getB_lit _ rfl ?_ | refine z7 ?_); conv => whnf) | exact True.intro)))
    rw [decide_eq_true h]
    ((conv => whnf); (repeat (first | ((first | refine z1 ?_ | refine z2 ?_ | refine z3 ?_ | refine idxB_at (by decide) rfl ?_ | refine atB_at (by decide) (by decide) ?_ | refine getB_lit _ rfl ?_ | refine z7 ?_); conv => whnf) | exact True.intro)))
    refine .mk [] ?_
    ((conv => whnf); (repeat (first | ((first | refine z1 ?_ | refine z2 ?_ | refine z3 ?_ | refine idxB_at (by decide) rfl ?_ | refine atB_at (by decide) (by decide) ?_ | refine getB_lit _ rfl ?_ | refine z7 ?_); conv => whnf) | exact True.intro)))
  · rw [if_neg h, decide_eq_false h]
    refine lspec tab_ok mix Tryz.func130 (by kernel_rfl) (by rfl) (by rfl) (by rfl) (by rfl) ?_
    ((conv => whnf); (repeat (first | ((first | refine z1 ?_ | refine z2 ?_ | refine z3 ?_ | refine idxB_at (by decide) rfl ?_ | refine atB_at (by decide) (by decide) ?_ | refine getB_lit _ rfl ?_ | refine z7 ?_); conv => whnf) | exact True.intro)))
    rw [decide_eq_false h]
    ((conv => whnf); (repeat (first | ((first | refine z1 ?_ | refine z2 ?_ | refine z3 ?_ | refine idxB_at (by decide) rfl ?_ | refine atB_at (by decide) (by decide) ?_ | refine getB_lit _ rfl ?_ | refine z7 ?_); conv => whnf) | exact True.intro)))
    refine .mk [] ?_
    ((conv => whnf); (repeat (first | ((first | refine z1 ?_ | refine z2 ?_ | refine z3 ?_ | refine idxB_at (by decide) rfl ?_ | refine atB_at (by decide) (by decide) ?_ | refine getB_lit _ rfl ?_ | refine z7 ?_); conv => whnf) | exact True.intro)))
theorem updStoreC (m : Mem) (th : Int) (i : Nat) (v : Int) (h : i < m.words.length) (hf : m.Fits) :
    LSpec Tryz.prog 107 [.p 0 4 0 0, V.int th, V.int 4, V.int i, .fn (.func 108) [] [.p 4 1 0 0]] (memB m 1 ++ [(4, .rows 1 [[V.int v]])]) 5 (.tup [V.int v, V.bool true]) (memB (m.store th i v) 5) 6 := by
  have hg := Mem.word_get h
  refine lspec tab_ok mix Tryz.func107 (by kernel_rfl) (by rfl) (by rfl) (by rfl) (by rfl) ?_
  ((conv => whnf); (repeat (first | ((first | refine z1 ?_ | refine z2 ?_ | refine z3 ?_ | refine idxB_at (by decide) rfl ?_ | refine atB_at (by decide) (by decide) ?_ | refine getB_lit _ rfl ?_ | refine z7 ?_); conv => whnf) | exact True.intro)))
  refine callL (atW m i h hf) [some 0, some 1, some 2, some 3] [] rfl ?_
  ((conv => whnf); (repeat (first | ((first | refine z1 ?_ | refine z2 ?_ | refine z3 ?_ | refine idxB_at (by decide) rfl ?_ | refine atB_at (by decide) (by decide) ?_ | refine getB_lit _ rfl ?_ | refine z7 ?_); conv => whnf) | exact True.intro)))
  refine getB hg ?_
  ((conv => whnf); (repeat (first | ((first | refine z1 ?_ | refine z2 ?_ | refine z3 ?_ | refine idxB_at (by decide) rfl ?_ | refine atB_at (by decide) (by decide) ?_ | refine getB_lit _ rfl ?_ | refine z7 ?_); conv => whnf) | exact True.intro)))
  refine callL (store1C v (m.word i)) [some 4] [] rfl ?_
  ((conv => whnf); (repeat (first | ((first | refine z1 ?_ | refine z2 ?_ | refine z3 ?_ | refine idxB_at (by decide) rfl ?_ | refine atB_at (by decide) (by decide) ?_ | refine getB_lit _ rfl ?_ | refine z7 ?_); conv => whnf) | exact True.intro)))
  refine getB hg ?_
  ((conv => whnf); (repeat (first | ((first | refine z1 ?_ | refine z2 ?_ | refine z3 ?_ | refine idxB_at (by decide) rfl ?_ | refine atB_at (by decide) (by decide) ?_ | refine getB_lit _ rfl ?_ | refine z7 ?_); conv => whnf) | exact True.intro)))
  refine callL (recordC { m with words := m.words.set i v } hf.log ⟨th, 4, i, m.word i, v, true⟩) [some 0, some 1, some 2, some 3] [] rfl ?_
  ((conv => whnf); (repeat (first | ((first | refine z1 ?_ | refine z2 ?_ | refine z3 ?_ | refine idxB_at (by decide) rfl ?_ | refine atB_at (by decide) (by decide) ?_ | refine getB_lit _ rfl ?_ | refine z7 ?_); conv => whnf) | exact True.intro)))
  refine cb (by simp [intD]) ?_
  ((conv => whnf); (repeat (first | ((first | refine z1 ?_ | refine z2 ?_ | refine z3 ?_ | refine idxB_at (by decide) rfl ?_ | refine atB_at (by decide) (by decide) ?_ | refine getB_lit _ rfl ?_ | refine z7 ?_); conv => whnf) | exact True.intro)))
  refine .mk [(5, 2304)] ?_
  ((conv => whnf); (repeat (first | ((first | refine z1 ?_ | refine z2 ?_ | refine z3 ?_ | refine idxB_at (by decide) rfl ?_ | refine atB_at (by decide) (by decide) ?_ | refine getB_lit _ rfl ?_ | refine z7 ?_); conv => whnf) | exact True.intro)))
theorem updCasC (m : Mem) (th : Int) (i : Nat) (o n : Int) (h : i < m.words.length) (hf : m.Fits) :
    LSpec Tryz.prog 107 [.p 0 4 0 0, V.int th, V.int 3, V.int i, .fn (.func 130) [] [.p 4 1 0 0, .p 5 1 0 0]] (memB m 1 ++ [(4, .rows 1 [[V.int o]]), (5, .rows 1 [[V.int n]])]) 6
      (.tup [V.int (if m.word i = o then n else m.word i), V.bool (decide (m.word i = o))]) (memB (m.cas th i o n).1 6) 7 := by
  have hg := Mem.word_get h
  have hc : (m.cas th i o n).1 = m.put th 3 i (if m.word i = o then n else m.word i) (decide (m.word i = o)) := by
    unfold Mem.cas
    split
    · next e => rw [decide_eq_true e]
    · next e => rw [decide_eq_false e]
  rw [hc]
  refine lspec tab_ok mix Tryz.func107 (by kernel_rfl) (by rfl) (by rfl) (by rfl) (by rfl) ?_
  ((conv => whnf); (repeat (first | ((first | refine z1 ?_ | refine z2 ?_ | refine z3 ?_ | refine idxB_at (by decide) rfl ?_ | refine atB_at (by decide) (by decide) ?_ | refine getB_lit _ rfl ?_ | refine z7 ?_); conv => whnf) | exact True.intro)))
  refine callL (atW m i h hf) [some 0, some 1, some 2, some 3] [] rfl ?_
  ((conv => whnf); (repeat (first | ((first | refine z1 ?_ | refine z2 ?_ | refine z3 ?_ | refine idxB_at (by decide) rfl ?_ | refine atB_at (by decide) (by decide) ?_ | refine getB_lit _ rfl ?_ | refine z7 ?_); conv => whnf) | exact True.intro)))
  refine getB hg ?_
  ((conv => whnf); (repeat (first | ((first | refine z1 ?_ | refine z2 ?_ | refine z3 ?_ | refine idxB_at (by decide) rfl ?_ | refine atB_at (by decide) (by decide) ?_ | refine getB_lit _ rfl ?_ | refine z7 ?_); conv => whnf) | exact True.intro)))
  refine callL (cas1C o n (m.word i)) [some 4, some 5] [] rfl ?_
  ((conv => whnf); (repeat (first | ((first | refine z1 ?_ | refine z2 ?_ | refine z3 ?_ | refine idxB_at (by decide) rfl ?_ | refine atB_at (by decide) (by decide) ?_ | refine getB_lit _ rfl ?_ | refine z7 ?_); conv => whnf) | exact True.intro)))
  generalize (if m.word i = o then n else m.word i) = v
  refine getB hg ?_
  ((conv => whnf); (repeat (first | ((first | refine z1 ?_ | refine z2 ?_ | refine z3 ?_ | refine idxB_at (by decide) rfl ?_ | refine atB_at (by decide) (by decide) ?_ | refine getB_lit _ rfl ?_ | refine z7 ?_); conv => whnf) | exact True.intro)))
  refine callL (recordC { m with words := m.words.set i v } hf.log ⟨th, 3, i, m.word i, v, decide (m.word i = o)⟩) [some 0, some 1, some 2, some 3] [] rfl ?_
  ((conv => whnf); (repeat (first | ((first | refine z1 ?_ | refine z2 ?_ | refine z3 ?_ | refine idxB_at (by decide) rfl ?_ | refine atB_at (by decide) (by decide) ?_ | refine getB_lit _ rfl ?_ | refine z7 ?_); conv => whnf) | exact True.intro)))
  refine cb (by simp [intD]) ?_
  ((conv => whnf); (repeat (first | ((first | refine z1 ?_ | refine z2 ?_ | refine z3 ?_ | refine idxB_at (by decide) rfl ?_ | refine atB_at (by decide) (by decide) ?_ | refine getB_lit _ rfl ?_ | refine z7 ?_); conv => whnf) | exact True.intro)))
  refine .mk [(6, 2304)] ?_
  ((conv => whnf); (repeat (first | ((first | refine z1 ?_ | refine z2 ?_ | refine z3 ?_ | refine idxB_at (by decide) rfl ?_ | refine atB_at (by decide) (by decide) ?_ | refine getB_lit _ rfl ?_ | refine z7 ?_); conv => whnf) | exact True.intro)))
theorem storeC (m : Mem) (th : Int) (i : Nat) (v : Int) (h : i < m.words.length) (hf : m.Fits) : LSpec Tryz.prog 48 [.p 0 4 0 0, V.int th, V.int i, V.int v] (memB m 1) 4 (.tup []) (memB (m.store th i v) 4) 5 := by
  refine lspec tab_ok mix Tryz.func48 (by kernel_rfl) (by rfl) (by rfl) (by rfl) (by rfl) ?_
  ((conv => whnf); (repeat (first | ((first | refine z1 ?_ | refine z2 ?_ | refine z3 ?_ | refine idxB_at (by decide) rfl ?_ | refine atB_at (by decide) (by decide) ?_ | refine getB_lit _ rfl ?_ | refine z7 ?_); conv => whnf) | exact True.intro)))
  refine callL (updStoreC m th i v h hf) [some 0, some 1, some 2, some 3, some 64] [] rfl ?_
  ((conv => whnf); (repeat (first | ((first | refine z1 ?_ | refine z2 ?_ | refine z3 ?_ | refine idxB_at (by decide) rfl ?_ | refine atB_at (by decide) (by decide) ?_ | refine getB_lit _ rfl ?_ | refine z7 ?_); conv => whnf) | exact True.intro)))
  refine .mk [(4, 384)] ?_
  ((conv => whnf); (repeat (first | ((first | refine z1 ?_ | refine z2 ?_ | refine z3 ?_ | refine idxB_at (by decide) rfl ?_ | refine atB_at (by decide) (by decide) ?_ | refine getB_lit _ rfl ?_ | refine z7 ?_); conv => whnf) | exact True.intro)))
theorem casC (m : Mem) (th : Int) (i : Nat) (o n : Int) (h : i < m.words.length) (hf : m.Fits) : LSpec Tryz.prog 76 [.p 0 4 0 0, V.int th, V.int i, V.int o, V.int n] (memB m 1) 4 (V.bool (decide (m.word i = o))) (memB (m.cas th i o n).1 4) 5 := by
  refine lspec tab_ok mix Tryz.func76 (by kernel_rfl) (by rfl) (by rfl) (by rfl) (by rfl) ?_
  ((conv => whnf); (repeat (first | ((first | refine z1 ?_ | refine z2 ?_ | refine z3 ?_ | refine idxB_at (by decide) rfl ?_ | refine atB_at (by decide) (by decide) ?_ | refine getB_lit _ rfl ?_ | refine z7 ?_); conv => whnf) | exact True.intro)))
  refine callL (updCasC m th i o n h hf) [some 0, some 1, some 2, some 3, some 64, some 128] [] rfl ?_
  ((conv => whnf); (repeat (first | ((first | refine z1 ?_ | refine z2 ?_ | refine z3 ?_ | refine idxB_at (by decide) rfl ?_ | refine atB_at (by decide) (by decide) ?_ | refine getB_lit _ rfl ?_ | refine z7 ?_); conv => whnf) | exact True.intro)))
  refine .mk [(4, 512)] ?_
  ((conv => whnf); (repeat (first | ((first | refine z1 ?_ | refine z2 ?_ | refine z3 ?_ | refine idxB_at (by decide) rfl ?_ | refine atB_at (by decide) (by decide) ?_ | refine getB_lit _ rfl ?_ | refine z7 ?_); conv => whnf) | exact True.intro)))
theorem new1C (n : Int) (h : 0 ≤ n ∧ n ≤ 256) : PSpec Tryz.prog 174 [V.int n] (V.bool true) := by
  refine pspec tab_ok mix Tryz.func174 (by kernel_rfl) rfl rfl ?_
  ((conv => whnf); (repeat (first | ((first | refine z1 ?_ | refine z2 ?_ | refine z3 ?_ | refine idxB_at (by decide) rfl ?_ | refine atB_at (by decide) (by decide) ?_ | refine getB_lit _ rfl ?_ | refine z7 ?_); conv => whnf) | exact True.intro)))
  rw [decide_eq_true h.1]
  ((conv => whnf); (repeat (first | ((first | refine z1 ?_ | refine z2 ?_ | refine z3 ?_ | refine idxB_at (by decide) rfl ?_ | refine atB_at (by decide) (by decide) ?_ | refine getB_lit _ rfl ?_ | refine z7 ?_); conv => whnf) | exact True.intro)))
  exact .same (congrArg (fun z => V.c (.bool z)) (decide_eq_true h.2))
def mem0 (w x : Nat) : Mem := ⟨List.replicate w 0, List.replicate x (false, 0), [], 0⟩
theorem newMemC (w x : Nat) (hw : w ≤ 256) (hx : x ≤ 256) : LSpec Tryz.prog 125 [V.int w, V.int x] [] 0 (.p 0 4 0 0) (memB (mem0 w x) 1) 4 := by
  refine lspec tab_ok mix Tryz.func125 (by kernel_rfl) (by rfl) (by rfl) (by rfl) (by rfl) ?_
  ((conv => whnf); (repeat (first | ((first | refine z1 ?_ | refine z2 ?_ | refine z3 ?_ | refine idxB_at (by decide) rfl ?_ | refine atB_at (by decide) (by decide) ?_ | refine getB_lit _ rfl ?_ | refine z7 ?_); conv => whnf) | exact True.intro)))
  refine callB (new1C w (by omega)) ?_
  ((conv => whnf); (repeat (first | ((first | refine z1 ?_ | refine z2 ?_ | refine z3 ?_ | refine idxB_at (by decide) rfl ?_ | refine atB_at (by decide) (by decide) ?_ | refine getB_lit _ rfl ?_ | refine z7 ?_); conv => whnf) | exact True.intro)))
  refine callB (new1C x (by omega)) ?_
  ((conv => whnf); (repeat (first | ((first | refine z1 ?_ | refine z2 ?_ | refine z3 ?_ | refine idxB_at (by decide) rfl ?_ | refine atB_at (by decide) (by decide) ?_ | refine getB_lit _ rfl ?_ | refine z7 ?_); conv => whnf) | exact True.intro)))
  refine dmakeB tab_ok w [.c (.int .i64 0)] _ rfl (.c _ rfl .nil) rfl rfl (by omega) rfl ?_
  ((conv => whnf); (repeat (first | ((first | refine z1 ?_ | refine z2 ?_ | refine z3 ?_ | refine idxB_at (by decide) rfl ?_ | refine atB_at (by decide) (by decide) ?_ | refine getB_lit _ rfl ?_ | refine z7 ?_); conv => whnf) | exact True.intro)))
  refine dmakeB tab_ok x [.c (.bool false), .c (.int .i64 0)] _ rfl (.c _ rfl (.c _ rfl .nil)) rfl rfl (by omega) rfl ?_
  ((conv => whnf); (repeat (first | ((first | refine z1 ?_ | refine z2 ?_ | refine z3 ?_ | refine idxB_at (by decide) rfl ?_ | refine atB_at (by decide) (by decide) ?_ | refine getB_lit _ rfl ?_ | refine z7 ?_); conv => whnf) | exact True.intro)))
  refine .mk [(0, 1280), (1, 1281), (2, 896), (3, 1088)] ?_
  ((conv => whnf); (repeat (first | ((first | refine z1 ?_ | refine z2 ?_ | refine z3 ?_ | refine idxB_at (by decide) rfl ?_ | refine atB_at (by decide) (by decide) ?_ | refine getB_lit _ rfl ?_ | refine z7 ?_); conv => whnf) | exact True.intro)))
  refine cb (by simp [mem0]) ?_
  ((conv => whnf); (repeat (first | ((first | refine z1 ?_ | refine z2 ?_ | refine z3 ?_ | refine idxB_at (by decide) rfl ?_ | refine atB_at (by decide) (by decide) ?_ | refine getB_lit _ rfl ?_ | refine z7 ?_); conv => whnf) | exact True.intro)))
  refine cb (by simp [mem0]) ?_
  ((conv => whnf); (repeat (first | ((first | refine z1 ?_ | refine z2 ?_ | refine z3 ?_ | refine idxB_at (by decide) rfl ?_ | refine atB_at (by decide) (by decide) ?_ | refine getB_lit _ rfl ?_ | refine z7 ?_); conv => whnf) | exact True.intro)))
  refine cb (by show _ = List.map intD (List.replicate w 0); rw [List.map_replicate]; rfl) ?_
  ((conv => whnf); (repeat (first | ((first | refine z1 ?_ | refine z2 ?_ | refine z3 ?_ | refine idxB_at (by decide) rfl ?_ | refine atB_at (by decide) (by decide) ?_ | refine getB_lit _ rfl ?_ | refine z7 ?_); conv => whnf) | exact True.intro)))
  exact cb (by show _ = List.map mtxRow (List.replicate x (false, 0)); rw [List.map_replicate]; rfl) (by ((conv => whnf); (repeat (first | ((first | refine z1 ?_ | refine z2 ?_ | refine z3 ?_ | refine idxB_at (by decide) rfl ?_ | refine atB_at (by decide) (by decide) ?_ | refine getB_lit _ rfl ?_ | refine z7 ?_); conv => whnf) | exact True.intro))))
end Go.Proofs.YtajgcanfngcfhaaGreat.Abs
