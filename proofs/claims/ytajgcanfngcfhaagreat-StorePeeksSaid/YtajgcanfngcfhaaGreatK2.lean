/- Small lemmas that the laws of workloads and of ladders share. -/
import Derived.Test.YtajgcanfngcfhaaGreatK1
import Derived.Test.YtajgcanfngcfhaaGreatL3
namespace Go.Proofs.YtajgcanfngcfhaaGreat.Abs
open Go.Proofs
set_option maxRecDepth 10000
set_option linter.unusedSimpArgs false
set_option linter.unusedVariables false
theorem pop_asks {l : Lad} (h : l.Good) (hs : l.Sz) : Enough l.siz l ∧ (peekG l).1.bottom.length < 1000000 := by
  refine ⟨enough_of h hs, ?_⟩
  have hf := fillG_filled h hs
  have hb : (fillG l).bottom.length ≤ (fillG l).items.length := by unfold Lad.items; simp only [List.length_append]; omega
  have := hf.perm.length_eq
  have := hs.len
  have e : (peekG l).1 = fillG l := by rw [peekG_eq]; split <;> rfl
  rw [e]; omega
theorem tmod_bounds (t b : Int) (hb : 0 < b) : -b < t.tmod b ∧ t.tmod b < b := by
  refine ⟨?_, Int.tmod_lt_of_pos _ hb⟩
  rcases Int.le_total 0 t with h | h
  · have := Int.tmod_nonneg b h; omega
  · have h1 := Int.tmod_lt_of_pos (-t) hb
    rw [Int.neg_tmod] at h1
    omega
instance : DecidableEq Item := fun a b => decidable_of_iff (a.time = b.time ∧ a.seq = b.seq ∧ a.slot = b.slot) (by cases a; cases b; simp)
theorem u16OfG {m : Nat} {row : List D} (h : ShapeD tab (m + 1) 54 row) : ∃ x : Int, row = [.c (.int .u16 x)] ∧ 0 ≤ x ∧ x ≤ 65535 := by
  obtain ⟨x, rfl, hw⟩ : ∃ x : Int, row = [.c (.int .u16 x)] ∧ (Lit.int .u16 x).wf = true := h
  exact ⟨x, rfl, by simpa [Lit.wf, IntKind.min, IntKind.max, IntKind.signed, IntKind.bits] using hw⟩
theorem rowsOfG {α : Type} {f : α → List D} {p : List D → Prop} (hp : ∀ r, p r → ∃ x, r = f x) : ∀ (rows : List (List D)), (∀ r ∈ rows, p r) → ∃ l : List α, rows = l.map f
  | [], _ => ⟨[], rfl⟩
  | r :: rows, h => by
    obtain ⟨l, rfl⟩ := rowsOfG hp rows fun r hr => h r (by simp [hr])
    obtain ⟨x, rfl⟩ := hp r (h r (by simp))
    exact ⟨x :: l, rfl⟩
theorem lstOfG {α : Type} {f : α → List D} {m sz : Nat} {t e : TypeId} (hk : (tab t).map Ty.kind = some (.slice e)) (hsz : sizeT tab e = sz) {row : List D} (hp : ∀ r, ShapeD tab m e r → ∃ x, r = f x) (h : ShapeD tab (m + 1) t row) : ∃ l : List α, row = [.lst sz (l.map f)] := by
  unfold ShapeD at h
  rw [hk] at h
  obtain ⟨rows, rfl, _, hr⟩ := h
  obtain ⟨l, rfl⟩ := rowsOfG hp rows hr
  rw [hsz]
  exact ⟨l, rfl⟩
end Go.Proofs.YtajgcanfngcfhaaGreat.Abs
/- The reference of buckets and rungs. -/
namespace Go.Proofs.YtajgcanfngcfhaaGreat.Abs
open Go.Proofs
set_option maxRecDepth 10000
set_option linter.unusedSimpArgs false
set_option linter.unusedVariables false

end Go.Proofs.YtajgcanfngcfhaaGreat.Abs
/- The reference of the ladder: order, placing, sorting, sameness. -/
namespace Go.Proofs.YtajgcanfngcfhaaGreat.Abs
open Go.Proofs
set_option maxRecDepth 10000
set_option linter.unusedSimpArgs false
set_option linter.unusedVariables false

end Go.Proofs.YtajgcanfngcfhaaGreat.Abs
/- The reference of the ladder: insertion. -/
namespace Go.Proofs.YtajgcanfngcfhaaGreat.Abs
open Go.Proofs
set_option maxRecDepth 10000
set_option linter.unusedSimpArgs false
set_option linter.unusedVariables false

end Go.Proofs.YtajgcanfngcfhaaGreat.Abs
/- The reference of the ladder: refilling, Peek and Pop. -/
namespace Go.Proofs.YtajgcanfngcfhaaGreat.Abs
open Go.Proofs
set_option maxRecDepth 10000
set_option linter.unusedSimpArgs false
set_option linter.unusedVariables false

end Go.Proofs.YtajgcanfngcfhaaGreat.Abs
/- The reference of the ladder: Peek and Pop; all items, their number. -/
namespace Go.Proofs.YtajgcanfngcfhaaGreat.Abs
open Go.Proofs
set_option maxRecDepth 10000
set_option linter.unusedSimpArgs false
set_option linter.unusedVariables false

end Go.Proofs.YtajgcanfngcfhaaGreat.Abs
/- All items of a ladder, and their number. -/
namespace Go.Proofs.YtajgcanfngcfhaaGreat.Abs
open Go.Proofs
set_option maxRecDepth 10000
set_option linter.unusedSimpArgs false
set_option linter.unusedVariables false

theorem growC0 : PSpec Tryz.prog 140 [.c (.slice none 0 0), V.int 0] (.c (.slice none 0 0)) := by
  refine pspec tab_ok mix Tryz.func140 (by kernel_rfl) rfl rfl ?_
  ((conv => whnf); (repeat (first | ((first | refine z1 ?_ | refine z2 ?_ | refine z3 ?_ | refine idxB_at (by decide) rfl ?_ | refine atB_at (by decide) (by decide) ?_ | refine getB_lit _ rfl ?_ | refine z7 ?_); conv => whnf) | trivial)))
  refine capNil tab_ok _ rfl rfl ?_
  ((conv => whnf); (repeat (first | ((first | refine z1 ?_ | refine z2 ?_ | refine z3 ?_ | refine idxB_at (by decide) rfl ?_ | refine atB_at (by decide) (by decide) ?_ | refine getB_lit _ rfl ?_ | refine z7 ?_); conv => whnf) | trivial)))
  exact .same rfl
def itemZ : List D := [.c (.int .i64 0), .c (.int .i64 0), .c (.int .i64 0)]
theorem growC (n : Nat) (h0 : 0 < n) (hn : n < 1000000) : LSpec Tryz.prog 140 [.c (.slice none 0 0), V.int n] [] 0 (.sl 0 3 0 0) [(0, .dat 3 (List.replicate n itemZ))] 1 := by
  refine lspec tab_ok mix Tryz.func140 (by kernel_rfl) (by rfl) (by rfl) (by rfl) (by rfl) ?_
  ((conv => whnf); (repeat (first | ((first | refine z1 ?_ | refine z2 ?_ | refine z3 ?_ | refine idxB_at (by decide) rfl ?_ | refine atB_at (by decide) (by decide) ?_ | refine getB_lit _ rfl ?_ | refine z7 ?_); conv => whnf) | trivial)))
  refine capNil tab_ok _ rfl rfl ?_
  ((conv => whnf); (repeat (first | ((first | refine z1 ?_ | refine z2 ?_ | refine z3 ?_ | refine idxB_at (by decide) rfl ?_ | refine atB_at (by decide) (by decide) ?_ | refine getB_lit _ rfl ?_ | refine z7 ?_); conv => whnf) | trivial)))
  refine br_dec (fun _ => ?_) (fun g => absurd (by omega) g)
  ((conv => whnf); (repeat (first | ((first | refine z1 ?_ | refine z2 ?_ | refine z3 ?_ | refine idxB_at (by decide) rfl ?_ | refine atB_at (by decide) (by decide) ?_ | refine getB_lit _ rfl ?_ | refine z7 ?_); conv => whnf) | trivial)))
  refine capNil tab_ok _ rfl rfl ?_
  ((conv => whnf); (repeat (first | ((first | refine z1 ?_ | refine z2 ?_ | refine z3 ?_ | refine idxB_at (by decide) rfl ?_ | refine atB_at (by decide) (by decide) ?_ | refine getB_lit _ rfl ?_ | refine z7 ?_); conv => whnf) | trivial)))
  refine slB 0 0 rfl rfl (by omega) ?_
  ((conv => whnf); (repeat (first | ((first | refine z1 ?_ | refine z2 ?_ | refine z3 ?_ | refine idxB_at (by decide) rfl ?_ | refine atB_at (by decide) (by decide) ?_ | refine getB_lit _ rfl ?_ | refine z7 ?_); conv => whnf) | trivial)))
  refine appendN tab_ok _ _ itemZ rfl (.c _ rfl (.c _ rfl (.c _ rfl .nil))) rfl rfl n rfl (kq := .i64) (congrArg (fun z : Int => V.c (.int .i64 z)) (by omega)) ⟨h0, by omega⟩ rfl rfl ?_
  ((conv => whnf); (repeat (first | ((first | refine z1 ?_ | refine z2 ?_ | refine z3 ?_ | refine idxB_at (by decide) rfl ?_ | refine atB_at (by decide) (by decide) ?_ | refine getB_lit _ rfl ?_ | refine z7 ?_); conv => whnf) | trivial)))
  refine slB 0 0 rfl rfl (by omega) ?_
  ((conv => whnf); (repeat (first | ((first | refine z1 ?_ | refine z2 ?_ | refine z3 ?_ | refine idxB_at (by decide) rfl ?_ | refine atB_at (by decide) (by decide) ?_ | refine getB_lit _ rfl ?_ | refine z7 ?_); conv => whnf) | trivial)))
  refine .mk [(0, 1216)] ?_
  ((conv => whnf); (repeat (first | ((first | refine z1 ?_ | refine z2 ?_ | refine z3 ?_ | refine idxB_at (by decide) rfl ?_ | refine atB_at (by decide) (by decide) ?_ | refine getB_lit _ rfl ?_ | refine z7 ?_); conv => whnf) | trivial)))
theorem flat_next {bs : List (List Item)} {i : Nat} {x : List Item} (hx : bs[i]? = some x) : (bs.take (i + 1)).flatten = (bs.take i).flatten ++ x := by
  rw [List.take_add_one, hx, Option.toList_some, List.flatten_append]; simp
theorem flat_le (bs : List (List Item)) (i : Nat) : (bs.take i).flatten.length ≤ bs.flatten.length := by
  have e : bs.flatten = (bs.take i).flatten ++ (bs.drop i).flatten := by rw [← List.flatten_append, List.take_append_drop]
  rw [e, List.length_append]; omega
set_option maxHeartbeats 1000000 in
theorem concatC (bs : List (List Item)) (hb : bs.length < 1000000) (hl : bs.flatten.length < 1000000) : LSpec Tryz.prog 89 [bktsV bs] [] 0 (.ac 0 3 bs.flatten.length) [(0, .dat 3 (bs.flatten.map Item.row))] 1 := by
  have hs : ∀ (i : Nat) (x : List Item), bs[i]? = some x → (bs.take (i + 1)).flatten = (bs.take i).flatten ++ x := fun i x hx => flat_next hx
  have hle := flat_le bs
  have he : bs.flatten = (bs.take bs.length).flatten := by rw [List.take_length]
  have h0 : (bs.take 0).flatten = [] := rfl
  let acc : Nat → List Item := fun i => (bs.take i).flatten
  have hacc : ∀ i, (bs.take i).flatten = acc i := fun _ => rfl
  simp only [hacc] at hs he hle h0
  rw [he] at hle hl ⊢
  clear_value acc
  refine lspec tab_ok mix Tryz.func89 (by kernel_rfl) (by rfl) (by rfl) (by rfl) (by rfl) ?_
  ((conv => whnf); (repeat (first | ((first | refine z1 ?_ | refine z2 ?_ | refine z3 ?_ | refine idxB_at (by decide) rfl ?_ | refine atB_at (by decide) (by decide) ?_ | refine getB_lit _ rfl ?_ | refine z7 ?_); conv => whnf) | trivial)))
  refine loopB tab_ok mix [0, 9, 10] [] (fun i : Nat => [(3, V.int (acc i).length), (11, V.int i)]) (fun i => []) (fun i => i ≤ bs.length) (fun i => bs.length - i) [] 0 rfl (by omega) (by rw [h0]; ((conv => whnf); (repeat (first | ((first | refine z1 ?_ | refine z2 ?_ | refine z3 ?_ | refine idxB_at (by decide) rfl ?_ | refine atB_at (by decide) (by decide) ?_ | refine getB_lit _ rfl ?_ | refine z7 ?_); conv => whnf) | trivial)))) ?_
  rintro i hi
  have hli := hle i
  ((conv => whnf); (repeat (first | ((first | refine z1 ?_ | refine z2 ?_ | refine z3 ?_ | refine idxB_at (by decide) rfl ?_ | refine atB_at (by decide) (by decide) ?_ | refine getB_lit _ rfl ?_ | refine z7 ?_); conv => whnf) | trivial)))
  refine br_dec (fun g => ?_) (fun g => ?_) <;> ((conv => whnf); (repeat (first | ((first | refine z1 ?_ | refine z2 ?_ | refine z3 ?_ | refine idxB_at (by decide) rfl ?_ | refine atB_at (by decide) (by decide) ?_ | refine getB_lit _ rfl ?_ | refine z7 ?_); conv => whnf) | trivial)))
  · have g' : i < bs.length := by simpa using g
    obtain ⟨x, hx⟩ := get_lt g'
    have hsx := hs i x hx
    have hl2 : (acc (i + 1)).length = (acc i).length + x.length := by rw [hsx, List.length_append]
    have hl3 := hle (i + 1)
    refine idxB hx ?_
    ((conv => whnf); (repeat (first | ((first | refine z1 ?_ | refine z2 ?_ | refine z3 ?_ | refine idxB_at (by decide) rfl ?_ | refine atB_at (by decide) (by decide) ?_ | refine getB_lit _ rfl ?_ | refine z7 ?_); conv => whnf) | trivial)))
    refine wrB (by simp; omega) ?_
    ((conv => whnf); (repeat (first | ((first | refine z1 ?_ | refine z2 ?_ | refine z3 ?_ | refine idxB_at (by decide) rfl ?_ | refine atB_at (by decide) (by decide) ?_ | refine getB_lit _ rfl ?_ | refine z7 ?_); conv => whnf) | trivial)))
    refine .mk [] (i + 1) (by omega) (by omega) ?_
    rw [hl2]
    ((conv => whnf); (repeat (first | ((first | refine z1 ?_ | refine z2 ?_ | refine z3 ?_ | refine idxB_at (by decide) rfl ?_ | refine atB_at (by decide) (by decide) ?_ | refine getB_lit _ rfl ?_ | refine z7 ?_); conv => whnf) | trivial)))
    all_goals exact cb (by simp) (by ((conv => whnf); (repeat (first | ((first | refine z1 ?_ | refine z2 ?_ | refine z3 ?_ | refine idxB_at (by decide) rfl ?_ | refine atB_at (by decide) (by decide) ?_ | refine getB_lit _ rfl ?_ | refine z7 ?_); conv => whnf) | trivial))))
  have ei : i = bs.length := by simp at g; omega
  subst ei
  by_cases hz : acc bs.length = []
  · have e0 : ((acc bs.length).length : Int) = 0 := by rw [hz]; rfl
    rw [e0]
    have hall : ∀ (i : Nat) (x : List Item), bs[i]? = some x → x = [] := fun i x hx => by
      have h1 := hle (i + 1)
      rw [hz, hs i x hx, List.length_append] at h1
      simp at h1
      exact h1.2
    refine callB growC0 ?_
    ((conv => whnf); (repeat (first | ((first | refine z1 ?_ | refine z2 ?_ | refine z3 ?_ | refine idxB_at (by decide) rfl ?_ | refine atB_at (by decide) (by decide) ?_ | refine getB_lit _ rfl ?_ | refine z7 ?_); conv => whnf) | trivial)))
    refine loopB tab_ok mix [25, 26] [] (fun i : Nat => [(6, .ac 1 3 0), (27, V.int i)]) (fun i => [(1, .dat 3 [])]) (fun i => i ≤ bs.length) (fun i => bs.length - i) [] 0 rfl (by omega) (by ((conv => whnf); (repeat (first | ((first | refine z1 ?_ | refine z2 ?_ | refine z3 ?_ | refine idxB_at (by decide) rfl ?_ | refine atB_at (by decide) (by decide) ?_ | refine getB_lit _ rfl ?_ | refine z7 ?_); conv => whnf) | trivial)))) ?_
    rintro i hi
    ((conv => whnf); (repeat (first | ((first | refine z1 ?_ | refine z2 ?_ | refine z3 ?_ | refine idxB_at (by decide) rfl ?_ | refine atB_at (by decide) (by decide) ?_ | refine getB_lit _ rfl ?_ | refine z7 ?_); conv => whnf) | trivial)))
    refine br_dec (fun g => ?_) (fun g => ?_) <;> ((conv => whnf); (repeat (first | ((first | refine z1 ?_ | refine z2 ?_ | refine z3 ?_ | refine idxB_at (by decide) rfl ?_ | refine atB_at (by decide) (by decide) ?_ | refine getB_lit _ rfl ?_ | refine z7 ?_); conv => whnf) | trivial)))
    · have g' : i < bs.length := by simpa using g
      obtain ⟨x, hx⟩ := get_lt g'
      cases hall i x hx
      refine idxB hx ?_
      ((conv => whnf); (repeat (first | ((first | refine z1 ?_ | refine z2 ?_ | refine z3 ?_ | refine idxB_at (by decide) rfl ?_ | refine atB_at (by decide) (by decide) ?_ | refine getB_lit _ rfl ?_ | refine z7 ?_); conv => whnf) | trivial)))
      refine .mk [(1, 1216)] (i + 1) (by omega) (by omega) ?_
      ((conv => whnf); (repeat (first | ((first | refine z1 ?_ | refine z2 ?_ | refine z3 ?_ | refine idxB_at (by decide) rfl ?_ | refine atB_at (by decide) (by decide) ?_ | refine getB_lit _ rfl ?_ | refine z7 ?_); conv => whnf) | trivial)))
    · rw [hz]
      refine .mk [(0, 1)] ?_
      ((conv => whnf); (repeat (first | ((first | refine z1 ?_ | refine z2 ?_ | refine z3 ?_ | refine idxB_at (by decide) rfl ?_ | refine atB_at (by decide) (by decide) ?_ | refine getB_lit _ rfl ?_ | refine z7 ?_); conv => whnf) | trivial)))
  · have hpos : 0 < (acc bs.length).length := by
      cases hc : acc bs.length with
      | nil => exact absurd hc hz
      | cons a t => simp
    refine callL (growC _ hpos hl) [] [] rfl ?_
    ((conv => whnf); (repeat (first | ((first | refine z1 ?_ | refine z2 ?_ | refine z3 ?_ | refine idxB_at (by decide) rfl ?_ | refine atB_at (by decide) (by decide) ?_ | refine getB_lit _ rfl ?_ | refine z7 ?_); conv => whnf) | trivial)))
    refine LoopB.room 6 rfl (Nat.le_of_ble_eq_true rfl) fun cap hcap => ?_
    refine loopB tab_ok mix [25, 26] [] (fun s : Nat ⊕ Nat => match s with
      | .inl i => [(6, .sx 1 3 0 0 cap), (27, V.int i)]
      | .inr i => [(6, .sl 1 3 0 (acc i).length), (27, V.int i)]) (fun s => match s with
      | .inl i => [(1, .dat 3 (List.replicate (acc bs.length).length itemZ))]
      | .inr i => [(1, .dat 3 ((acc i).map Item.row))]) (fun s => match s with
      | .inl i => i ≤ bs.length ∧ acc i = []
      | .inr i => i ≤ bs.length ∧ acc i ≠ []) (fun s => match s with
      | .inl i => bs.length - i
      | .inr i => bs.length - i) [(1, 512)] (.inl 0) rfl ⟨by omega, h0⟩ (by ((conv => whnf); (repeat (first | ((first | refine z1 ?_ | refine z2 ?_ | refine z3 ?_ | refine idxB_at (by decide) rfl ?_ | refine atB_at (by decide) (by decide) ?_ | refine getB_lit _ rfl ?_ | refine z7 ?_); conv => whnf) | trivial)))) ?_
    rintro (i | i) ⟨hi, hacci⟩
    · ((conv => whnf); (repeat (first | ((first | refine z1 ?_ | refine z2 ?_ | refine z3 ?_ | refine idxB_at (by decide) rfl ?_ | refine atB_at (by decide) (by decide) ?_ | refine getB_lit _ rfl ?_ | refine z7 ?_); conv => whnf) | trivial)))
      refine br_dec (fun g => ?_) (fun g => ?_) <;> ((conv => whnf); (repeat (first | ((first | refine z1 ?_ | refine z2 ?_ | refine z3 ?_ | refine idxB_at (by decide) rfl ?_ | refine atB_at (by decide) (by decide) ?_ | refine getB_lit _ rfl ?_ | refine z7 ?_); conv => whnf) | trivial)))
      · have g' : i < bs.length := by simpa using g
        obtain ⟨x, hx⟩ := get_lt g'
        refine idxB hx ?_
        ((conv => whnf); (repeat (first | ((first | refine z1 ?_ | refine z2 ?_ | refine z3 ?_ | refine idxB_at (by decide) rfl ?_ | refine atB_at (by decide) (by decide) ?_ | refine getB_lit _ rfl ?_ | refine z7 ?_); conv => whnf) | trivial)))
        have hsx := hs i x hx
        rw [hacci, List.nil_append] at hsx
        cases x with
        | nil =>
          refine appendE tab_ok _ _ rfl rfl rfl rfl ?_
          ((conv => whnf); (repeat (first | ((first | refine z1 ?_ | refine z2 ?_ | refine z3 ?_ | refine idxB_at (by decide) rfl ?_ | refine atB_at (by decide) (by decide) ?_ | refine getB_lit _ rfl ?_ | refine z7 ?_); conv => whnf) | trivial)))
          refine .mk [] (.inl (i + 1)) ⟨by omega, hsx⟩ (by dsimp only; omega) ?_
          ((conv => whnf); (repeat (first | ((first | refine z1 ?_ | refine z2 ?_ | refine z3 ?_ | refine idxB_at (by decide) rfl ?_ | refine atB_at (by decide) (by decide) ?_ | refine getB_lit _ rfl ?_ | refine z7 ?_); conv => whnf) | trivial)))
        | cons a t =>
          refine asSl tab_ok ?_
          ((conv => whnf); (repeat (first | ((first | refine z1 ?_ | refine z2 ?_ | refine z3 ?_ | refine idxB_at (by decide) rfl ?_ | refine atB_at (by decide) (by decide) ?_ | refine getB_lit _ rfl ?_ | refine z7 ?_); conv => whnf) | trivial)))
          refine cb ⟨by intro e; rw [List.replicate_eq_nil_iff] at e; omega, by simp, by have := hle (i + 1); rw [hsx] at this; simp at this ⊢; omega⟩ ?_
          ((conv => whnf); (repeat (first | ((first | refine z1 ?_ | refine z2 ?_ | refine z3 ?_ | refine idxB_at (by decide) rfl ?_ | refine atB_at (by decide) (by decide) ?_ | refine getB_lit _ rfl ?_ | refine z7 ?_); conv => whnf) | trivial)))
          refine .mk [(1, 1216)] (.inr (i + 1)) ⟨by omega, by rw [hsx]; simp⟩ (by dsimp only; omega) ?_
          ((conv => whnf); (repeat (first | ((first | refine z1 ?_ | refine z2 ?_ | refine z3 ?_ | refine idxB_at (by decide) rfl ?_ | refine atB_at (by decide) (by decide) ?_ | refine getB_lit _ rfl ?_ | refine z7 ?_); conv => whnf) | trivial)))
          refine cb (by rw [hsx]; simp) ?_
          ((conv => whnf); (repeat (first | ((first | refine z1 ?_ | refine z2 ?_ | refine z3 ?_ | refine idxB_at (by decide) rfl ?_ | refine atB_at (by decide) (by decide) ?_ | refine getB_lit _ rfl ?_ | refine z7 ?_); conv => whnf) | trivial)))
          exact cb (by rw [hsx]; simp [List.take_of_length_le]) (by ((conv => whnf); (repeat (first | ((first | refine z1 ?_ | refine z2 ?_ | refine z3 ?_ | refine idxB_at (by decide) rfl ?_ | refine atB_at (by decide) (by decide) ?_ | refine getB_lit _ rfl ?_ | refine z7 ?_); conv => whnf) | trivial))))
      · have ei : i = bs.length := by simp at g; omega
        subst ei
        exact absurd hacci hz
    · have hli2 := hle i
      have hne : (acc i).map Item.row ≠ [] := by intro e; exact hacci (List.map_eq_nil_iff.1 e)
      ((conv => whnf); (repeat (first | ((first | refine z1 ?_ | refine z2 ?_ | refine z3 ?_ | refine idxB_at (by decide) rfl ?_ | refine atB_at (by decide) (by decide) ?_ | refine getB_lit _ rfl ?_ | refine z7 ?_); conv => whnf) | trivial)))
      refine br_dec (fun g => ?_) (fun g => ?_) <;> ((conv => whnf); (repeat (first | ((first | refine z1 ?_ | refine z2 ?_ | refine z3 ?_ | refine idxB_at (by decide) rfl ?_ | refine atB_at (by decide) (by decide) ?_ | refine getB_lit _ rfl ?_ | refine z7 ?_); conv => whnf) | trivial)))
      · have g' : i < bs.length := by simpa using g
        obtain ⟨x, hx⟩ := get_lt g'
        refine idxB hx ?_
        ((conv => whnf); (repeat (first | ((first | refine z1 ?_ | refine z2 ?_ | refine z3 ?_ | refine idxB_at (by decide) rfl ?_ | refine atB_at (by decide) (by decide) ?_ | refine getB_lit _ rfl ?_ | refine z7 ?_); conv => whnf) | trivial)))
        have hsx := hs i x hx
        have hl3 := hle (i + 1)
        rw [hsx, List.length_append] at hl3
        refine cb ⟨hne, by simp, by simp; omega⟩ ?_
        ((conv => whnf); (repeat (first | ((first | refine z1 ?_ | refine z2 ?_ | refine z3 ?_ | refine idxB_at (by decide) rfl ?_ | refine atB_at (by decide) (by decide) ?_ | refine getB_lit _ rfl ?_ | refine z7 ?_); conv => whnf) | trivial)))
        refine .mk [(1, 1216)] (.inr (i + 1)) ⟨by omega, by rw [hsx]; simp [hacci]⟩ (by dsimp only; omega) ?_
        ((conv => whnf); (repeat (first | ((first | refine z1 ?_ | refine z2 ?_ | refine z3 ?_ | refine idxB_at (by decide) rfl ?_ | refine atB_at (by decide) (by decide) ?_ | refine getB_lit _ rfl ?_ | refine z7 ?_); conv => whnf) | trivial)))
        refine cb (by rw [hsx]; simp) ?_
        ((conv => whnf); (repeat (first | ((first | refine z1 ?_ | refine z2 ?_ | refine z3 ?_ | refine idxB_at (by decide) rfl ?_ | refine atB_at (by decide) (by decide) ?_ | refine getB_lit _ rfl ?_ | refine z7 ?_); conv => whnf) | trivial)))
        exact cb (by rw [hsx]; simp [List.take_of_length_le]) (by ((conv => whnf); (repeat (first | ((first | refine z1 ?_ | refine z2 ?_ | refine z3 ?_ | refine idxB_at (by decide) rfl ?_ | refine atB_at (by decide) (by decide) ?_ | refine getB_lit _ rfl ?_ | refine z7 ?_); conv => whnf) | trivial))))
      · have ei : i = bs.length := by simp at g; omega
        subst ei
        refine .mk [(0, 1)] ?_
        ((conv => whnf); (repeat (first | ((first | refine z1 ?_ | refine z2 ?_ | refine z3 ?_ | refine idxB_at (by decide) rfl ?_ | refine atB_at (by decide) (by decide) ?_ | refine getB_lit _ rfl ?_ | refine z7 ?_); conv => whnf) | trivial)))
end Go.Proofs.YtajgcanfngcfhaaGreat.Abs
/- All items of a ladder, and their number: the program and the reference. -/
namespace Go.Proofs.YtajgcanfngcfhaaGreat.Abs
open Go.Proofs
set_option maxRecDepth 10000
set_option linter.unusedSimpArgs false
set_option linter.unusedVariables false

/-- sizes that the machine can hold -/
structure Lad.Small (l : Lad) : Prop where
  len : l.items.length < 1000000
  rungs : l.rungs.length < 1000000
  each : ∀ r ∈ l.rungs, r.bkts.length < 1000000
def accL (l : Lad) (i : Nat) : List Item := l.top ++ (l.bottom ++ ((l.rungs.take i).map Rng.items).flatten)
theorem accL_next {l : Lad} {i : Nat} {r : Rng} (hr : l.rungs[i]? = some r) : accL l (i + 1) = accL l i ++ r.items := by
  unfold accL
  rw [List.take_add_one, hr, Option.toList_some, List.map_append, List.flatten_append]
  simp
theorem accL_len (l : Lad) (i : Nat) : (accL l i).length ≤ l.items.length := by
  have e : l.rungs = l.rungs.take i ++ l.rungs.drop i := (List.take_append_drop _ _).symm
  have e2 : l.rest = ((l.rungs.take i).map Rng.items).flatten ++ ((l.rungs.drop i).map Rng.items).flatten := by
    unfold Lad.rest
    conv => lhs; rw [e]
    rw [List.map_append, List.flatten_append]
  unfold accL Lad.items
  rw [e2]
  simp only [List.length_append]; omega
theorem accL_end (l : Lad) : accL l l.rungs.length = l.items := by unfold accL; rw [List.take_length]; rfl
theorem small_rung {l : Lad} (h : l.Small) {r : Rng} (hr : r ∈ l.rungs) : r.items.length < 1000000 := by
  have := rung_items_le hr
  have := h.len
  omega
end Go.Proofs.YtajgcanfngcfhaaGreat.Abs
