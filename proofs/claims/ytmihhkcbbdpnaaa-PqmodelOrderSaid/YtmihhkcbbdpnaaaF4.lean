/- Contracts of the library's functions on slices of entries, events and whole numbers. -/
import Derived.Test.YtmihhkcbbdpnaaaF3
namespace Go.Proofs.Ytmihhkcbbdpnaaa.Abs
open Go.Proofs
set_option maxRecDepth 10000
set_option linter.unusedSimpArgs false
set_option linter.unusedVariables false

/-- the first place where p holds -/
def findAt {α : Type} (p : α → Bool) (l : List α) : Int := match l.findIdx? p with
  | some i => i
  | none => -1
theorem findAt_none {α : Type} {p : α → Bool} {l : List α} (h : ∀ x ∈ l, p x = false) : findAt p l = -1 := by
  unfold findAt
  rw [List.findIdx?_eq_none_iff.2 h]
theorem findAt_some {α : Type} {p : α → Bool} {l : List α} {i : Nat} {x : α} (hi : l[i]? = some x) (hx : p x = true) (h : ∀ y ∈ l.take i, p y = false) : findAt p l = i := by
  unfold findAt
  obtain ⟨hl, rfl⟩ := List.getElem?_eq_some_iff.1 hi
  have : l.findIdx? p = some i := by
    rw [List.findIdx?_eq_some_iff_getElem]
    refine ⟨hl, hx, fun j hj => ?_⟩
    have := h l[j] (List.mem_take_iff_getElem.2 ⟨j, by omega, rfl⟩)
    simp [this]
  rw [this]
theorem indexC (l : List Int) (x : Int) (hl : l.length < 9223372036854775807) : PSpec Try.prog 107 [intsV l, V.int x] (V.int (findAt (fun y => decide (x = y)) l)) := by
  refine pspec tab_ok mix Try.func107 (by kernel_rfl) rfl rfl ?_
  ((conv => whnf); (repeat (first | ((first | refine z1 ?_ | refine z2 ?_ | refine z3 ?_ | refine idxB_at (by decide) rfl ?_ | refine atB_at (by decide) (by decide) ?_ | refine getB_lit _ rfl ?_ | refine z7 ?_); conv => whnf) | trivial)))
  refine loopB tab_ok mix [0, 1, 7] [] (fun i : Nat => [(8, V.int i)]) (fun i => []) (fun i => i ≤ l.length ∧ x ∉ l.take i) (fun i => l.length - i) [] 0 rfl ⟨by omega, by simp⟩ (by ((conv => whnf); (repeat (first | ((first | refine z1 ?_ | refine z2 ?_ | refine z3 ?_ | refine idxB_at (by decide) rfl ?_ | refine atB_at (by decide) (by decide) ?_ | refine getB_lit _ rfl ?_ | refine z7 ?_); conv => whnf) | trivial)))) ?_
  rintro i ⟨h1, h2⟩
  ((conv => whnf); (repeat (first | ((first | refine z1 ?_ | refine z2 ?_ | refine z3 ?_ | refine idxB_at (by decide) rfl ?_ | refine atB_at (by decide) (by decide) ?_ | refine getB_lit _ rfl ?_ | refine z7 ?_); conv => whnf) | trivial)))
  refine br_dec (fun g => ?_) (fun g => ?_) <;> ((conv => whnf); (repeat (first | ((first | refine z1 ?_ | refine z2 ?_ | refine z3 ?_ | refine idxB_at (by decide) rfl ?_ | refine atB_at (by decide) (by decide) ?_ | refine getB_lit _ rfl ?_ | refine z7 ?_); conv => whnf) | trivial)))
  · simp at g
    obtain ⟨y, hy⟩ := get_lt g
    refine idxB hy ?_
    ((conv => whnf); (repeat (first | ((first | refine z1 ?_ | refine z2 ?_ | refine z3 ?_ | refine idxB_at (by decide) rfl ?_ | refine atB_at (by decide) (by decide) ?_ | refine getB_lit _ rfl ?_ | refine z7 ?_); conv => whnf) | trivial)))
    refine br_dec (fun e => ?_) (fun e => ?_) <;> ((conv => whnf); (repeat (first | ((first | refine z1 ?_ | refine z2 ?_ | refine z3 ?_ | refine idxB_at (by decide) rfl ?_ | refine atB_at (by decide) (by decide) ?_ | refine getB_lit _ rfl ?_ | refine z7 ?_); conv => whnf) | trivial)))
    · refine .same ?_
      rw [findAt_some hy (by simpa using e) (fun z hz => by simp; rintro rfl; exact h2 hz)]
    · refine .mk [] (i + 1) ⟨by omega, ?_⟩ (by omega) ?_
      · rw [List.take_add_one, hy]
        simp only [Option.toList_some, List.mem_append, List.mem_singleton, h2, false_or]
        exact e
      · ((conv => whnf); (repeat (first | ((first | refine z1 ?_ | refine z2 ?_ | refine z3 ?_ | refine idxB_at (by decide) rfl ?_ | refine atB_at (by decide) (by decide) ?_ | refine getB_lit _ rfl ?_ | refine z7 ?_); conv => whnf) | trivial)))
  · have e : i = l.length := by simp at g; omega
    subst e
    rw [List.take_length] at h2
    exact .same (by rw [findAt_none (fun z hz => by simp; rintro rfl; exact h2 hz)])
theorem findAt_mem (l : List Int) (x : Int) : decide (0 ≤ findAt (fun y => decide (x = y)) l) = decide (x ∈ l) := by
  by_cases h : x ∈ l
  · unfold findAt
    cases hf : l.findIdx? (fun y => decide (x = y)) with
    | none => rw [List.findIdx?_eq_none_iff] at hf; simpa using hf x h
    | some i => simp [h]
  · rw [findAt_none (fun z hz => by simp; rintro rfl; exact h hz)]
    simp [h]
theorem containsC (l : List Int) (x : Int) (hl : l.length < 9223372036854775807) : PSpec Try.prog 61 [intsV l, V.int x] (V.bool (decide (x ∈ l))) := by
  refine pspec tab_ok mix Try.func61 (by kernel_rfl) rfl rfl ?_
  ((conv => whnf); (repeat (first | ((first | refine z1 ?_ | refine z2 ?_ | refine z3 ?_ | refine idxB_at (by decide) rfl ?_ | refine atB_at (by decide) (by decide) ?_ | refine getB_lit _ rfl ?_ | refine z7 ?_); conv => whnf) | trivial)))
  refine callB (indexC l x hl) ?_
  ((conv => whnf); (repeat (first | ((first | refine z1 ?_ | refine z2 ?_ | refine z3 ?_ | refine idxB_at (by decide) rfl ?_ | refine atB_at (by decide) (by decide) ?_ | refine getB_lit _ rfl ?_ | refine z7 ?_); conv => whnf) | trivial)))
  exact .same (by rw [findAt_mem])
theorem clipC (l : List Int) : PSpec Try.prog 112 [intsV l] (.lst 1 (l.map intD) true) := by
  refine pspec tab_ok mix Try.func112 (by kernel_rfl) rfl rfl ?_
  ((conv => whnf); (repeat (first | ((first | refine z1 ?_ | refine z2 ?_ | refine z3 ?_ | refine idxB_at (by decide) rfl ?_ | refine atB_at (by decide) (by decide) ?_ | refine getB_lit _ rfl ?_ | refine z7 ?_); conv => whnf) | trivial)))
  refine slB 0 l.length rfl (by simp [isHi]) (by simp) ?_
  ((conv => whnf); (repeat (first | ((first | refine z1 ?_ | refine z2 ?_ | refine z3 ?_ | refine idxB_at (by decide) rfl ?_ | refine atB_at (by decide) (by decide) ?_ | refine getB_lit _ rfl ?_ | refine z7 ?_); conv => whnf) | trivial)))
  exact .same (by rw [List.take_of_length_le (by simp)]; rfl)
noncomputable def sortedE (l : List Ent) : Bool := @decide (∀ (i : Nat) (x y : Ent), l[i]? = some x → l[i + 1]? = some y → ¬ cmpEnt y x < 0) (Classical.propDecidable _)
theorem sortedE_iff (l : List Ent) : sortedE l = true ↔ ∀ (i : Nat) (x y : Ent), l[i]? = some x → l[i + 1]? = some y → ¬ cmpEnt y x < 0 := by
  unfold sortedE; exact @decide_eq_true_iff _ (Classical.propDecidable _)
theorem br_neq {p X Y : Prop} [Decidable p] {z : Bool} (hz : z = decide p) (h1 : ¬ p → X) (h2 : p → Y) : brK (!z) X Y := by subst hz; exact br_ndec h1 h2
theorem br_eq {p X Y : Prop} [Decidable p] {z : Bool} (hz : z = decide p) (h1 : p → X) (h2 : ¬ p → Y) : brK z X Y := by subst hz; exact br_dec h1 h2
theorem isSortedC (l : List Ent) (hl : l.length < 9223372036854775807) : PSpec Try.prog 68 [entsV l, .fn (.func 69) [] []] (V.bool (sortedE l)) := by
  refine pspec tab_ok mix Try.func68 (by kernel_rfl) rfl rfl ?_
  ((conv => whnf); (repeat (first | ((first | refine z1 ?_ | refine z2 ?_ | refine z3 ?_ | refine idxB_at (by decide) rfl ?_ | refine atB_at (by decide) (by decide) ?_ | refine getB_lit _ rfl ?_ | refine z7 ?_); conv => whnf) | trivial)))
  refine wrB (by simp; omega) ?_
  ((conv => whnf); (repeat (first | ((first | refine z1 ?_ | refine z2 ?_ | refine z3 ?_ | refine idxB_at (by decide) rfl ?_ | refine atB_at (by decide) (by decide) ?_ | refine getB_lit _ rfl ?_ | refine z7 ?_); conv => whnf) | trivial)))
  refine loopB tab_ok mix [0, 1] [] (fun i : Int => [(5, V.int i)]) (fun i => []) (fun k => -1 ≤ k ∧ k ≤ (l.length : Int) - 1 ∧ ∀ (i : Nat) (x y : Ent), k ≤ i → l[i]? = some x → l[i + 1]? = some y → ¬ cmpEnt y x < 0) (fun i => (i + 1).toNat) [] ((l.length : Int) - 1) rfl ⟨by omega, by omega, fun i x y h1 h2 h3 => by have := (List.getElem?_eq_some_iff.1 h3).1; omega⟩ (by ((conv => whnf); (repeat (first | ((first | refine z1 ?_ | refine z2 ?_ | refine z3 ?_ | refine idxB_at (by decide) rfl ?_ | refine atB_at (by decide) (by decide) ?_ | refine getB_lit _ rfl ?_ | refine z7 ?_); conv => whnf) | trivial)))) ?_
  rintro k ⟨h1, h2, h3⟩
  ((conv => whnf); (repeat (first | ((first | refine z1 ?_ | refine z2 ?_ | refine z3 ?_ | refine idxB_at (by decide) rfl ?_ | refine atB_at (by decide) (by decide) ?_ | refine getB_lit _ rfl ?_ | refine z7 ?_); conv => whnf) | trivial)))
  refine br_dec (fun g => ?_) (fun g => ?_) <;> ((conv => whnf); (repeat (first | ((first | refine z1 ?_ | refine z2 ?_ | refine z3 ?_ | refine idxB_at (by decide) rfl ?_ | refine atB_at (by decide) (by decide) ?_ | refine getB_lit _ rfl ?_ | refine z7 ?_); conv => whnf) | trivial)))
  · obtain ⟨i, rfl⟩ : ∃ i : Nat, k = ((i + 1 : Nat) : Int) := ⟨(k - 1).toNat, by omega⟩
    obtain ⟨y, hy⟩ := get_lt (show i + 1 < l.length by omega)
    obtain ⟨x, hx⟩ := get_lt (show i < l.length by omega)
    refine idxB hy ?_
    ((conv => whnf); (repeat (first | ((first | refine z1 ?_ | refine z2 ?_ | refine z3 ?_ | refine idxB_at (by decide) rfl ?_ | refine atB_at (by decide) (by decide) ?_ | refine getB_lit _ rfl ?_ | refine z7 ?_); conv => whnf) | trivial)))
    refine idxB_eq i x (by omega) hx ?_
    ((conv => whnf); (repeat (first | ((first | refine z1 ?_ | refine z2 ?_ | refine z3 ?_ | refine idxB_at (by decide) rfl ?_ | refine atB_at (by decide) (by decide) ?_ | refine getB_lit _ rfl ?_ | refine z7 ?_); conv => whnf) | trivial)))
    refine dcallB (compareC y x) ?_
    ((conv => whnf); (repeat (first | ((first | refine z1 ?_ | refine z2 ?_ | refine z3 ?_ | refine idxB_at (by decide) rfl ?_ | refine atB_at (by decide) (by decide) ?_ | refine getB_lit _ rfl ?_ | refine z7 ?_); conv => whnf) | trivial)))
    refine br_dec (fun e => ?_) (fun e => ?_) <;> ((conv => whnf); (repeat (first | ((first | refine z1 ?_ | refine z2 ?_ | refine z3 ?_ | refine idxB_at (by decide) rfl ?_ | refine atB_at (by decide) (by decide) ?_ | refine getB_lit _ rfl ?_ | refine z7 ?_); conv => whnf) | trivial)))
    · refine .same ?_
      rw [Bool.eq_false_iff.2 fun h => (sortedE_iff l).1 h i x y hx hy e]
    · refine .mk [] i ⟨by omega, by omega, ?_⟩ (by omega) ?_
      · intro j x' y' hj hx' hy'
        by_cases hij : j = i
        · subst hij; rw [hx] at hx'; rw [hy] at hy'; cases hx'; cases hy'; exact e
        · exact h3 j x' y' (by omega) hx' hy'
      · ((conv => whnf); (repeat (first | ((first | refine z1 ?_ | refine z2 ?_ | refine z3 ?_ | refine idxB_at (by decide) rfl ?_ | refine atB_at (by decide) (by decide) ?_ | refine getB_lit _ rfl ?_ | refine z7 ?_); conv => whnf) | trivial)))
  · refine .same ?_
    rw [(sortedE_iff l).2 fun i x y hx hy => h3 i x y (by omega) hx hy]
theorem equalEvtsC (l m : List Evt) (hl : l.length < 9223372036854775807) : PSpec Try.prog 78 [evtsV l, evtsV m] (V.bool (decide (l = m))) := by
  refine pspec tab_ok mix Try.func78 (by kernel_rfl) rfl rfl ?_
  ((conv => whnf); (repeat (first | ((first | refine z1 ?_ | refine z2 ?_ | refine z3 ?_ | refine idxB_at (by decide) rfl ?_ | refine atB_at (by decide) (by decide) ?_ | refine getB_lit _ rfl ?_ | refine z7 ?_); conv => whnf) | trivial)))
  refine br_ndec (fun h => ?_) (fun h => ?_) <;> ((conv => whnf); (repeat (first | ((first | refine z1 ?_ | refine z2 ?_ | refine z3 ?_ | refine idxB_at (by decide) rfl ?_ | refine atB_at (by decide) (by decide) ?_ | refine getB_lit _ rfl ?_ | refine z7 ?_); conv => whnf) | trivial)))
  · refine .same ?_
    rw [decide_eq_false]
    rintro rfl
    exact h rfl
  simp at h
  refine loopB tab_ok mix [0, 1, 12] [] (fun i : Nat => [(13, V.int i)]) (fun i => []) (fun i => i ≤ l.length ∧ l.take i = m.take i) (fun i => l.length - i) [] 0 rfl ⟨by omega, by simp⟩ (by ((conv => whnf); (repeat (first | ((first | refine z1 ?_ | refine z2 ?_ | refine z3 ?_ | refine idxB_at (by decide) rfl ?_ | refine atB_at (by decide) (by decide) ?_ | refine getB_lit _ rfl ?_ | refine z7 ?_); conv => whnf) | trivial)))) ?_
  rintro i ⟨h1, h2⟩
  ((conv => whnf); (repeat (first | ((first | refine z1 ?_ | refine z2 ?_ | refine z3 ?_ | refine idxB_at (by decide) rfl ?_ | refine atB_at (by decide) (by decide) ?_ | refine getB_lit _ rfl ?_ | refine z7 ?_); conv => whnf) | trivial)))
  refine br_dec (fun g => ?_) (fun g => ?_) <;> ((conv => whnf); (repeat (first | ((first | refine z1 ?_ | refine z2 ?_ | refine z3 ?_ | refine idxB_at (by decide) rfl ?_ | refine atB_at (by decide) (by decide) ?_ | refine getB_lit _ rfl ?_ | refine z7 ?_); conv => whnf) | trivial)))
  · simp at g
    obtain ⟨x, hx⟩ := get_lt g
    obtain ⟨y, hy⟩ := get_lt (show i < m.length by omega)
    refine idxB hx ?_
    ((conv => whnf); (repeat (first | ((first | refine z1 ?_ | refine z2 ?_ | refine z3 ?_ | refine idxB_at (by decide) rfl ?_ | refine atB_at (by decide) (by decide) ?_ | refine getB_lit _ rfl ?_ | refine z7 ?_); conv => whnf) | trivial)))
    refine idxB hy ?_
    ((conv => whnf); (repeat (first | ((first | refine z1 ?_ | refine z2 ?_ | refine z3 ?_ | refine idxB_at (by decide) rfl ?_ | refine atB_at (by decide) (by decide) ?_ | refine getB_lit _ rfl ?_ | refine z7 ?_); conv => whnf) | trivial)))
    refine dneqB [true, true] (by kernel_rfl) rfl rfl rfl ?_
    ((conv => whnf); (repeat (first | ((first | refine z1 ?_ | refine z2 ?_ | refine z3 ?_ | refine idxB_at (by decide) rfl ?_ | refine atB_at (by decide) (by decide) ?_ | refine getB_lit _ rfl ?_ | refine z7 ?_); conv => whnf) | trivial)))
    have exy : (decide (x.time = y.time) && (decide (x.handle = y.handle) && true)) = decide (x = y) := by
      cases x; cases y; simp
    refine br_neq exy (fun e => ?_) (fun e => ?_) <;> ((conv => whnf); (repeat (first | ((first | refine z1 ?_ | refine z2 ?_ | refine z3 ?_ | refine idxB_at (by decide) rfl ?_ | refine atB_at (by decide) (by decide) ?_ | refine getB_lit _ rfl ?_ | refine z7 ?_); conv => whnf) | trivial)))
    · refine .same ?_
      rw [decide_eq_false]
      rintro rfl
      rw [hx] at hy; cases hy; exact e rfl
    · refine .mk [] (i + 1) ⟨by omega, ?_⟩ (by omega) ?_
      · rw [List.take_add_one, List.take_add_one, hx, hy, h2, e]
      · ((conv => whnf); (repeat (first | ((first | refine z1 ?_ | refine z2 ?_ | refine z3 ?_ | refine idxB_at (by decide) rfl ?_ | refine atB_at (by decide) (by decide) ?_ | refine getB_lit _ rfl ?_ | refine z7 ?_); conv => whnf) | trivial)))
  · have e : i = l.length := by simp at g; omega
    subst e
    rw [List.take_length, List.take_of_length_le (by omega)] at h2
    exact .same (by simp [h2])

/-! ### distinct -/
def setM (l : List Int) : List (Value × V) := l.map fun x => (.int .i64 x, V.bool true)
theorem setM_keys (l : List Int) : IntKeys .i64 (setM l) := by
  intro e he
  obtain ⟨x, _, rfl⟩ := List.mem_map.1 he
  exact ⟨x, rfl⟩
@[simp] theorem setM_plain (l : List Int) : plainM (setM l) := by
  intro e he
  obtain ⟨x, _, rfl⟩ := List.mem_map.1 he
  exact ⟨_, rfl⟩
theorem setM_find (x : Int) : ∀ (l : List Int) (i : Nat), (match mapFind x (setM l) i with | some p => p.2 | none => cV (.bool false)) = V.bool (decide (x ∈ l))
  | [], i => rfl
  | y :: l, i => by
    simp only [setM, List.map_cons, mapFind]
    by_cases h : x = y
    · subst h; simp
    · simp only [h, if_false, List.mem_cons, false_or]
      exact setM_find x l (i + 1)
theorem setM_add (x : Int) : ∀ (l : List Int), x ∉ l → mapSet .i64 x (V.bool true) (setM l) = setM (l ++ [x])
  | [], _ => rfl
  | y :: l, h => by
    simp only [List.mem_cons, not_or] at h
    simp only [setM, List.map_cons, mapSet, h.1, if_false, List.cons_append]
    congr 1
    exact setM_add x l h.2
theorem distinctInts (l : List Int) (hl : l.length < 9223372036854775807) : PSpec Try.prog 66 [intsV l, .fn (.func 67) [] []] (V.bool (decide l.Nodup)) := by
  have hv : ∀ x : Int, PSpec Try.prog 67 [V.int x] (V.int x) := by
    intro x
    refine pspec tab_ok mix Try.func67 (by kernel_rfl) rfl rfl ?_
    ((conv => whnf); (repeat (first | ((first | refine z1 ?_ | refine z2 ?_ | refine z3 ?_ | refine idxB_at (by decide) rfl ?_ | refine atB_at (by decide) (by decide) ?_ | refine getB_lit _ rfl ?_ | refine z7 ?_); conv => whnf) | trivial)))
    exact .same rfl
  refine pspec tab_ok mix Try.func66 (by kernel_rfl) rfl rfl ?_
  ((conv => whnf); (repeat (first | ((first | refine z1 ?_ | refine z2 ?_ | refine z3 ?_ | refine idxB_at (by decide) rfl ?_ | refine atB_at (by decide) (by decide) ?_ | refine getB_lit _ rfl ?_ | refine z7 ?_); conv => whnf) | trivial)))
  refine makeMapB ?_
  ((conv => whnf); (repeat (first | ((first | refine z1 ?_ | refine z2 ?_ | refine z3 ?_ | refine idxB_at (by decide) rfl ?_ | refine atB_at (by decide) (by decide) ?_ | refine getB_lit _ rfl ?_ | refine z7 ?_); conv => whnf) | trivial)))
  refine loopB tab_ok mix [1, 5, 9, 10] [] (fun i : Nat => [(11, V.int i)]) (fun i => [(64, .map (setM (l.take i)))]) (fun i => i ≤ l.length ∧ (l.take i).Nodup) (fun i => l.length - i) [] 0 rfl ⟨by omega, by simp⟩ (by ((conv => whnf); (repeat (first | ((first | refine z1 ?_ | refine z2 ?_ | refine z3 ?_ | refine idxB_at (by decide) rfl ?_ | refine atB_at (by decide) (by decide) ?_ | refine getB_lit _ rfl ?_ | refine z7 ?_); conv => whnf) | trivial)))) ?_
  rintro i ⟨h1, h2⟩
  ((conv => whnf); (repeat (first | ((first | refine z1 ?_ | refine z2 ?_ | refine z3 ?_ | refine idxB_at (by decide) rfl ?_ | refine atB_at (by decide) (by decide) ?_ | refine getB_lit _ rfl ?_ | refine z7 ?_); conv => whnf) | trivial)))
  refine br_dec (fun g => ?_) (fun g => ?_) <;> ((conv => whnf); (repeat (first | ((first | refine z1 ?_ | refine z2 ?_ | refine z3 ?_ | refine idxB_at (by decide) rfl ?_ | refine atB_at (by decide) (by decide) ?_ | refine getB_lit _ rfl ?_ | refine z7 ?_); conv => whnf) | trivial)))
  · simp at g
    obtain ⟨x, hx⟩ := get_lt g
    refine idxB hx ?_
    ((conv => whnf); (repeat (first | ((first | refine z1 ?_ | refine z2 ?_ | refine z3 ?_ | refine idxB_at (by decide) rfl ?_ | refine atB_at (by decide) (by decide) ?_ | refine getB_lit _ rfl ?_ | refine z7 ?_); conv => whnf) | trivial)))
    refine callB (hv x) ?_
    ((conv => whnf); (repeat (first | ((first | refine z1 ?_ | refine z2 ?_ | refine z3 ?_ | refine idxB_at (by decide) rfl ?_ | refine atB_at (by decide) (by decide) ?_ | refine getB_lit _ rfl ?_ | refine z7 ?_); conv => whnf) | trivial)))
    refine lookB tab_ok rfl rfl (by kernel_rfl) rfl rfl rfl (setM_keys _) _ (setM_find x _ 0) ?_
    ((conv => whnf); (repeat (first | ((first | refine z1 ?_ | refine z2 ?_ | refine z3 ?_ | refine idxB_at (by decide) rfl ?_ | refine atB_at (by decide) (by decide) ?_ | refine getB_lit _ rfl ?_ | refine z7 ?_); conv => whnf) | trivial)))
    refine br_dec (fun e => ?_) (fun e => ?_) <;> ((conv => whnf); (repeat (first | ((first | refine z1 ?_ | refine z2 ?_ | refine z3 ?_ | refine idxB_at (by decide) rfl ?_ | refine atB_at (by decide) (by decide) ?_ | refine getB_lit _ rfl ?_ | refine z7 ?_); conv => whnf) | trivial)))
    · refine .same ?_
      rw [decide_eq_false]
      intro hn
      have : (l.take (i + 1)).Nodup := hn.sublist (List.take_sublist _ _)
      rw [List.take_add_one, hx] at this
      simp only [Option.toList_some] at this
      exact (List.nodup_append.1 this).2.2 x e x (by simp) rfl
    · refine callB (hv x) ?_
      ((conv => whnf); (repeat (first | ((first | refine z1 ?_ | refine z2 ?_ | refine z3 ?_ | refine idxB_at (by decide) rfl ?_ | refine atB_at (by decide) (by decide) ?_ | refine getB_lit _ rfl ?_ | refine z7 ?_); conv => whnf) | trivial)))
      refine mapSetB tab_ok rfl rfl rfl rfl rfl (setM_keys _) _ rfl _ (setM_add x _ e) ?_
      ((conv => whnf); (repeat (first | ((first | refine z1 ?_ | refine z2 ?_ | refine z3 ?_ | refine idxB_at (by decide) rfl ?_ | refine atB_at (by decide) (by decide) ?_ | refine getB_lit _ rfl ?_ | refine z7 ?_); conv => whnf) | trivial)))
      refine .mk [] (i + 1) ⟨by omega, ?_⟩ (by omega) ?_
      · rw [List.take_add_one, hx]
        simp only [Option.toList_some]
        exact List.nodup_append.2 ⟨h2, by simp, by rintro a ha b hb rfl; simp at hb; subst hb; exact e ha⟩
      · ((conv => whnf); (repeat (first | ((first | refine z1 ?_ | refine z2 ?_ | refine z3 ?_ | refine idxB_at (by decide) rfl ?_ | refine atB_at (by decide) (by decide) ?_ | refine getB_lit _ rfl ?_ | refine z7 ?_); conv => whnf) | trivial)))
        refine cb ?_ ?_
        · rw [List.take_add_one, hx]; rfl
        · ((conv => whnf); (repeat (first | ((first | refine z1 ?_ | refine z2 ?_ | refine z3 ?_ | refine idxB_at (by decide) rfl ?_ | refine atB_at (by decide) (by decide) ?_ | refine getB_lit _ rfl ?_ | refine z7 ?_); conv => whnf) | trivial)))
  · have e : i = l.length := by simp at g; omega
    subst e
    rw [List.take_length] at h2
    exact .same (by simp [h2])
end Go.Proofs.Ytmihhkcbbdpnaaa.Abs
