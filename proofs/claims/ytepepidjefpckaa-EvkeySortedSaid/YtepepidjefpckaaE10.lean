/- The stable sort of slices, over events: merging in place. -/
import Derived.Test.YtepepidjefpckaaE9
import Derived.Test.YtepepidjefpckaaP1
namespace Go.Proofs.Ytepepidjefpckaa.Abs
open Go.Proofs
set_option maxRecDepth 10000
set_option linter.unusedSimpArgs false
set_option linter.unusedVariables false

theorem cmpEvC : Cmp cmpEv := ⟨cmpEv_anti, fun x y z h1 h2 => cmpEv_trans x y z h1 h2⟩
theorem cmpEv_refl (x : Ev) : cmpEv x x = 0 := (cmpEv_zero x x).2 ⟨rfl, (cmpK_zero _ _).2 rfl⟩
theorem srt_take {α : Type} {c : α → α → Int} {B : List α} (hB : Srt c B) (refl : ∀ x, le c x x) {r : Nat} {y : α} (hy : B[r]? = some y) : ∀ z ∈ B.take (r + 1), le c z y := by
  intro z hz
  obtain ⟨i, hi, rfl⟩ := List.getElem_of_mem hz
  have hr := (List.getElem?_eq_some_iff.1 hy).1
  have hy' := (List.getElem?_eq_some_iff.1 hy).2
  rw [List.length_take] at hi
  rw [List.getElem_take]
  by_cases e : i = r
  · subst e; rw [hy']; exact refl y
  · rw [← hy']; exact List.pairwise_iff_getElem.1 hB i r (by omega) hr (by omega)
theorem srt_drop {α : Type} {c : α → α → Int} {B : List α} (hB : Srt c B) (refl : ∀ x, le c x x) {r : Nat} {y : α} (hy : B[r]? = some y) : ∀ z ∈ B.drop r, le c y z := by
  intro z hz
  obtain ⟨i, hi, rfl⟩ := List.getElem_of_mem hz
  have hr := (List.getElem?_eq_some_iff.1 hy).1
  have hy' := (List.getElem?_eq_some_iff.1 hy).2
  rw [List.length_drop] at hi
  rw [List.getElem_drop]
  by_cases e : i = 0
  · subst e; simp only [Nat.add_zero]; rw [hy']; exact refl y
  · rw [← hy']; exact List.pairwise_iff_getElem.1 hB r (r + i) hr (by omega) (by omega)
theorem leEv_refl (x : Ev) : le cmpEv x x := by unfold le; rw [cmpEv_refl]; omega
theorem mrg_one {α : Type} {c : α → α → Int} {B : List α} {x : α} (p : Nat) (h1 : ∀ y ∈ B.take p, c y x < 0) (h2 : ∀ y ∈ B.drop p, ¬ c y x < 0) : mrg c [x] B = B.take p ++ x :: B.drop p := by
  have e := mrg_split (c := c) [] (B.take p) [x] (B.drop p) (fun y hy x' hx => by simp at hx; subst hx; exact h1 y hy) (by simp)
  rw [List.nil_append, List.take_append_drop] at e
  have e2 := mrg_split (c := c) [x] [] [] (B.drop p) (by simp) (fun x' hx y hy => by simp at hx; subst hx; exact h2 y hy)
  rw [List.append_nil, List.nil_append, mrg_nil] at e2
  rw [e, e2]
  simp [mrg]
theorem mrg_last {α : Type} {c : α → α → Int} {A : List α} {y : α} (p : Nat) (h1 : ∀ x ∈ A.take p, ¬ c y x < 0) (h2 : ∀ x ∈ A.drop p, c y x < 0) : mrg c A [y] = A.take p ++ y :: A.drop p := by
  have e := mrg_split (c := c) (A.take p) [] (A.drop p) [y] (by simp) (fun x hx y' hy => by simp at hy; subst hy; exact h1 x hx)
  rw [List.nil_append, List.take_append_drop, mrg_nil] at e
  have e2 := mrg_split (c := c) [] [y] (A.drop p) [] (fun y' hy x hx => by simp at hy; subst hy; exact h2 x hx) (by simp)
  rw [List.append_nil, List.nil_append, mrg_nil] at e2
  rw [e, e2]
  simp [mrg]
theorem wrU {n : Int} {K : Int → Prop} (h : 0 ≤ n ∧ n ≤ 9223372036854775807) (k : K n) : WrB .u64 n K := ⟨by
  have e : wr .u64 n = n := by
    have e : wr .u64 n = IntKind.wrap .u64 n := rfl
    rw [e, IntKind.wrap_u64]; omega
  rw [e]; exact k⟩
theorem half {i j : Nat} {K : Int → Prop} (r : Nat) (hr : (i + j) / 2 = r) (h : i + j < 9223372036854775808) (k : K (r : Int)) : WrB .i64 (Int.fdiv ((i : Int) + (j : Int)) (2 ^ (min (Int.toNat 1) (IntKind.bits .u64)))) K := by
  have e : (2 : Int) ^ (min (Int.toNat 1) (IntKind.bits .u64)) = 2 := by decide
  rw [e]
  have e2 : Int.fdiv ((i : Int) + (j : Int)) 2 = (r : Int) := by
    rw [Int.fdiv_eq_ediv_of_nonneg _ (by omega)]; omega
  rw [e2]
  exact wrB (by omega) k
theorem insAt_get {α : Type} {B : List α} {x : α} {t : Nat} (ht : t ≤ B.length) : (B.take t ++ x :: B.drop t)[t]? = some x := by
  rw [List.getElem?_append_right (by rw [List.length_take]; omega), List.length_take, Nat.min_eq_left ht]; simp
theorem insAt_get' {α : Type} {B : List α} {x y : α} {t : Nat} (hy : B[t]? = some y) : (B.take t ++ x :: B.drop t)[t + 1]? = some y := by
  have ht := (List.getElem?_eq_some_iff.1 hy).1
  rw [List.getElem?_append_right (by rw [List.length_take]; omega), List.length_take, Nat.min_eq_left (by omega), show t + 1 - t = 1 by omega, drop_get hy]; rfl
theorem insAt_set {α : Type} {B : List α} {x y : α} {t : Nat} (hy : B[t]? = some y) : ((B.take t ++ x :: B.drop t).set t y).set (t + 1) x = B.take (t + 1) ++ x :: B.drop (t + 1) := by
  have ht := (List.getElem?_eq_some_iff.1 hy).1
  have hl : (B.take t).length = t := by rw [List.length_take]; omega
  rw [drop_get hy, List.take_add_one, hy, List.set_append_right _ _ (by omega), List.set_append_right _ _ (by omega), hl, show t - t = 0 by omega, show t + 1 - t = 1 by omega]
  simp

theorem insAt_getB {α : Type} {B : List α} {x y : α} {t : Nat} (hy : B[t]? = some y) : (B.take (t + 1) ++ x :: B.drop (t + 1))[t]? = some y := by
  have ht := (List.getElem?_eq_some_iff.1 hy).1
  rw [List.getElem?_append_left (by rw [List.length_take]; omega), List.getElem?_take_of_lt (by omega)]; exact hy
theorem insAt_back {α : Type} {B : List α} {x y : α} {t : Nat} (hy : B[t]? = some y) : ((B.take (t + 1) ++ x :: B.drop (t + 1)).set (t + 1) y).set t x = B.take t ++ x :: B.drop t := by
  have ht := (List.getElem?_eq_some_iff.1 hy).1
  have hl : (B.take t).length = t := by rw [List.length_take]; omega
  rw [drop_get hy, List.take_add_one, hy]
  rw [List.append_assoc, List.set_append_right _ _ (by omega), List.set_append_right _ _ (by omega), hl, show t - t = 0 by omega, show t + 1 - t = 1 by omega]
  simp
theorem symMerge1 (pre : List Ev) (x : Ev) (B post : List Ev) (hB : Srt cmpEv B) (kB : keysOk B) (a m b len : Nat) (ha : a = pre.length) (hm : m = a + 1) (hb : b = m + B.length) (hlen : len = pre.length + 1 + B.length + post.length) (hl : len < 4611686018427387904) :
    LSpec Try.prog 59 [.ac 0 6 len, V.int a, V.int m, V.int b, cmpF] [(0, .dat 6 ((pre ++ ([x] ++ (B ++ post))).map Ev.row))] 1 (.tup []) [(0, .dat 6 ((pre ++ (mrg cmpEv [x] B ++ post)).map Ev.row))] 1 := by
  refine lspec tab_ok mix Try.func59 (by kernel_rfl) (by rfl) (by rfl) (by rfl) (by rfl) ?_
  ((conv => whnf); (repeat first | (refine wrB (by omega) ?_; conv => whnf) | (refine okB (by kernel_rfl) ?_; conv => whnf) | (refine cb (by first | rfl | omega | (simp; done) | (simp; omega)) ?_; conv => whnf) | (refine idxB_at (by decide) rfl ?_; conv => whnf) | (refine atB_at (by decide) (by decide) ?_; conv => whnf) | (refine getB_lit _ rfl ?_; conv => whnf) | (refine cnd tab_ok mix ?_; conv => whnf) | trivial))
  refine br_yes (by simp; omega) ?_
  ((conv => whnf); (repeat first | (refine wrB (by omega) ?_; conv => whnf) | (refine okB (by kernel_rfl) ?_; conv => whnf) | (refine cb (by first | rfl | omega | (simp; done) | (simp; omega)) ?_; conv => whnf) | (refine idxB_at (by decide) rfl ?_; conv => whnf) | (refine atB_at (by decide) (by decide) ?_; conv => whnf) | (refine getB_lit _ rfl ?_; conv => whnf) | (refine cnd tab_ok mix ?_; conv => whnf) | trivial))
  refine loopB2 tab_ok mix [0, 1, 4] [0] (fun (p q : Nat) => [(10, V.int (m + p : Nat)), (11, V.int (m + q : Nat))]) (fun p q => [])
    (fun p q => p ≤ q ∧ q ≤ B.length ∧ (∀ y ∈ B.take p, cmpEv y x < 0) ∧ (∀ y ∈ B.drop q, ¬ cmpEv y x < 0)) (fun p q => q - p) [] 0 B.length rfl ⟨by omega, by omega, by simp, by simp⟩ (by ((conv => whnf); (repeat first | (refine wrB (by omega) ?_; conv => whnf) | (refine okB (by kernel_rfl) ?_; conv => whnf) | (refine cb (by first | rfl | omega | (simp; done) | (simp; omega)) ?_; conv => whnf) | (refine idxB_at (by decide) rfl ?_; conv => whnf) | (refine atB_at (by decide) (by decide) ?_; conv => whnf) | (refine getB_lit _ rfl ?_; conv => whnf) | (refine cnd tab_ok mix ?_; conv => whnf) | trivial))) ?_
  rintro p q ⟨h1, h2, h3, h4⟩
  ((conv => whnf); (repeat first | (refine wrB (by omega) ?_; conv => whnf) | (refine okB (by kernel_rfl) ?_; conv => whnf) | (refine cb (by first | rfl | omega | (simp; done) | (simp; omega)) ?_; conv => whnf) | (refine idxB_at (by decide) rfl ?_; conv => whnf) | (refine atB_at (by decide) (by decide) ?_; conv => whnf) | (refine getB_lit _ rfl ?_; conv => whnf) | (refine cnd tab_ok mix ?_; conv => whnf) | trivial))
  refine br_dec (fun g => ?_) (fun g => ?_) <;> ((conv => whnf); (repeat first | (refine wrB (by omega) ?_; conv => whnf) | (refine okB (by kernel_rfl) ?_; conv => whnf) | (refine cb (by first | rfl | omega | (simp; done) | (simp; omega)) ?_; conv => whnf) | (refine idxB_at (by decide) rfl ?_; conv => whnf) | (refine atB_at (by decide) (by decide) ?_; conv => whnf) | (refine getB_lit _ rfl ?_; conv => whnf) | (refine cnd tab_ok mix ?_; conv => whnf) | trivial))
  · have hr1 : p ≤ (p + q) / 2 := by omega
    have hr2 : (p + q) / 2 < q := by omega
    have hrm : (m + p + (m + q)) / 2 = m + (p + q) / 2 := by omega
    generalize (p + q) / 2 = r at hr1 hr2 hrm
    obtain ⟨y, hy⟩ := get_lt (show r < B.length by omega)
    have gx : (pre ++ ([x] ++ (B ++ post)))[a]? = some x := get_mid (i := 0) ha rfl
    have gy : (pre ++ ([x] ++ (B ++ post)))[m + r]? = some y := by
      rw [← List.append_assoc pre]
      exact get_mid (by simp; omega) hy
    have ky : y.key.length < 9223372036854775807 := kB y (List.mem_of_getElem? hy)
    refine wrU (by omega) ?_
    ((conv => whnf); (repeat first | (refine wrB (by omega) ?_; conv => whnf) | (refine okB (by kernel_rfl) ?_; conv => whnf) | (refine cb (by first | rfl | omega | (simp; done) | (simp; omega)) ?_; conv => whnf) | (refine idxB_at (by decide) rfl ?_; conv => whnf) | (refine atB_at (by decide) (by decide) ?_; conv => whnf) | (refine getB_lit _ rfl ?_; conv => whnf) | (refine cnd tab_ok mix ?_; conv => whnf) | trivial))
    refine half (m + r) hrm (by omega) ?_
    ((conv => whnf); (repeat first | (refine wrB (by omega) ?_; conv => whnf) | (refine okB (by kernel_rfl) ?_; conv => whnf) | (refine cb (by first | rfl | omega | (simp; done) | (simp; omega)) ?_; conv => whnf) | (refine idxB_at (by decide) rfl ?_; conv => whnf) | (refine atB_at (by decide) (by decide) ?_; conv => whnf) | (refine getB_lit _ rfl ?_; conv => whnf) | (refine cnd tab_ok mix ?_; conv => whnf) | trivial))
    refine atB_eq (m + r) rfl (by omega) ?_
    ((conv => whnf); (repeat first | (refine wrB (by omega) ?_; conv => whnf) | (refine okB (by kernel_rfl) ?_; conv => whnf) | (refine cb (by first | rfl | omega | (simp; done) | (simp; omega)) ?_; conv => whnf) | (refine idxB_at (by decide) rfl ?_; conv => whnf) | (refine atB_at (by decide) (by decide) ?_; conv => whnf) | (refine getB_lit _ rfl ?_; conv => whnf) | (refine cnd tab_ok mix ?_; conv => whnf) | trivial))
    refine getB gy ?_
    ((conv => whnf); (repeat first | (refine wrB (by omega) ?_; conv => whnf) | (refine okB (by kernel_rfl) ?_; conv => whnf) | (refine cb (by first | rfl | omega | (simp; done) | (simp; omega)) ?_; conv => whnf) | (refine idxB_at (by decide) rfl ?_; conv => whnf) | (refine atB_at (by decide) (by decide) ?_; conv => whnf) | (refine getB_lit _ rfl ?_; conv => whnf) | (refine cnd tab_ok mix ?_; conv => whnf) | trivial))
    refine atB_eq a rfl (by omega) ?_
    ((conv => whnf); (repeat first | (refine wrB (by omega) ?_; conv => whnf) | (refine okB (by kernel_rfl) ?_; conv => whnf) | (refine cb (by first | rfl | omega | (simp; done) | (simp; omega)) ?_; conv => whnf) | (refine idxB_at (by decide) rfl ?_; conv => whnf) | (refine atB_at (by decide) (by decide) ?_; conv => whnf) | (refine getB_lit _ rfl ?_; conv => whnf) | (refine cnd tab_ok mix ?_; conv => whnf) | trivial))
    refine getB gx ?_
    ((conv => whnf); (repeat first | (refine wrB (by omega) ?_; conv => whnf) | (refine okB (by kernel_rfl) ?_; conv => whnf) | (refine cb (by first | rfl | omega | (simp; done) | (simp; omega)) ?_; conv => whnf) | (refine idxB_at (by decide) rfl ?_; conv => whnf) | (refine atB_at (by decide) (by decide) ?_; conv => whnf) | (refine getB_lit _ rfl ?_; conv => whnf) | (refine cnd tab_ok mix ?_; conv => whnf) | trivial))
    refine dcallB (compareEvents y x ky) ?_
    ((conv => whnf); (repeat first | (refine wrB (by omega) ?_; conv => whnf) | (refine okB (by kernel_rfl) ?_; conv => whnf) | (refine cb (by first | rfl | omega | (simp; done) | (simp; omega)) ?_; conv => whnf) | (refine idxB_at (by decide) rfl ?_; conv => whnf) | (refine atB_at (by decide) (by decide) ?_; conv => whnf) | (refine getB_lit _ rfl ?_; conv => whnf) | (refine cnd tab_ok mix ?_; conv => whnf) | trivial))
    refine br_dec (fun k => ?_) (fun k => ?_) <;> ((conv => whnf); (repeat first | (refine wrB (by omega) ?_; conv => whnf) | (refine okB (by kernel_rfl) ?_; conv => whnf) | (refine cb (by first | rfl | omega | (simp; done) | (simp; omega)) ?_; conv => whnf) | (refine idxB_at (by decide) rfl ?_; conv => whnf) | (refine atB_at (by decide) (by decide) ?_; conv => whnf) | (refine getB_lit _ rfl ?_; conv => whnf) | (refine cnd tab_ok mix ?_; conv => whnf) | trivial))
    · refine .mk [] (r + 1) q ⟨by omega, h2, fun z hz => cmpEvC.le_lt (srt_take hB leEv_refl hy z hz) k, h4⟩ (by dsimp only; omega) ?_
      ((conv => whnf); (repeat first | (refine wrB (by omega) ?_; conv => whnf) | (refine okB (by kernel_rfl) ?_; conv => whnf) | (refine cb (by first | rfl | omega | (simp; done) | (simp; omega)) ?_; conv => whnf) | (refine idxB_at (by decide) rfl ?_; conv => whnf) | (refine atB_at (by decide) (by decide) ?_; conv => whnf) | (refine getB_lit _ rfl ?_; conv => whnf) | (refine cnd tab_ok mix ?_; conv => whnf) | trivial))
    · refine .mk [] p r ⟨by omega, by omega, h3, fun z hz => cmpEvC.le_trans k (srt_drop hB leEv_refl hy z hz)⟩ (by dsimp only; omega) ?_
      ((conv => whnf); (repeat first | (refine wrB (by omega) ?_; conv => whnf) | (refine okB (by kernel_rfl) ?_; conv => whnf) | (refine cb (by first | rfl | omega | (simp; done) | (simp; omega)) ?_; conv => whnf) | (refine idxB_at (by decide) rfl ?_; conv => whnf) | (refine atB_at (by decide) (by decide) ?_; conv => whnf) | (refine getB_lit _ rfl ?_; conv => whnf) | (refine cnd tab_ok mix ?_; conv => whnf) | trivial))
  · have hpq : q = p := by omega
    subst hpq
    have em := mrg_one q h3 h4
    refine loopB tab_ok mix [0, 10] [] (fun t : Nat => [(13, V.int (a + t : Nat))]) (fun t => [(0, .dat 6 ((pre ++ ((B.take t ++ x :: B.drop t) ++ post)).map Ev.row))]) (fun t => t ≤ q) (fun t => q - t) [] 0 rfl (by omega) (by ((conv => whnf); (repeat first | (refine wrB (by omega) ?_; conv => whnf) | (refine okB (by kernel_rfl) ?_; conv => whnf) | (refine cb (by first | rfl | omega | (simp; done) | (simp; omega)) ?_; conv => whnf) | (refine idxB_at (by decide) rfl ?_; conv => whnf) | (refine atB_at (by decide) (by decide) ?_; conv => whnf) | (refine getB_lit _ rfl ?_; conv => whnf) | (refine cnd tab_ok mix ?_; conv => whnf) | trivial))) ?_
    rintro t ht
    ((conv => whnf); (repeat first | (refine wrB (by omega) ?_; conv => whnf) | (refine okB (by kernel_rfl) ?_; conv => whnf) | (refine cb (by first | rfl | omega | (simp; done) | (simp; omega)) ?_; conv => whnf) | (refine idxB_at (by decide) rfl ?_; conv => whnf) | (refine atB_at (by decide) (by decide) ?_; conv => whnf) | (refine getB_lit _ rfl ?_; conv => whnf) | (refine cnd tab_ok mix ?_; conv => whnf) | trivial))
    refine br_dec (fun k => ?_) (fun k => ?_) <;> ((conv => whnf); (repeat first | (refine wrB (by omega) ?_; conv => whnf) | (refine okB (by kernel_rfl) ?_; conv => whnf) | (refine cb (by first | rfl | omega | (simp; done) | (simp; omega)) ?_; conv => whnf) | (refine idxB_at (by decide) rfl ?_; conv => whnf) | (refine atB_at (by decide) (by decide) ?_; conv => whnf) | (refine getB_lit _ rfl ?_; conv => whnf) | (refine cnd tab_ok mix ?_; conv => whnf) | trivial))
    · obtain ⟨y, hy⟩ := get_lt (show t < B.length by omega)
      have gx : (pre ++ ((B.take t ++ x :: B.drop t) ++ post))[a + t]? = some x := get_mid ha (insAt_get (by omega))
      have gy : (pre ++ ((B.take t ++ x :: B.drop t) ++ post))[a + (t + 1)]? = some y := get_mid ha (insAt_get' hy)
      have hli : (B.take t ++ x :: B.drop t).length = B.length + 1 := by simp; omega
      refine atB_eq (a + (t + 1)) (by omega) (by omega) ?_
      ((conv => whnf); (repeat first | (refine wrB (by omega) ?_; conv => whnf) | (refine okB (by kernel_rfl) ?_; conv => whnf) | (refine cb (by first | rfl | omega | (simp; done) | (simp; omega)) ?_; conv => whnf) | (refine idxB_at (by decide) rfl ?_; conv => whnf) | (refine atB_at (by decide) (by decide) ?_; conv => whnf) | (refine getB_lit _ rfl ?_; conv => whnf) | (refine cnd tab_ok mix ?_; conv => whnf) | trivial))
      refine getB gy ?_
      ((conv => whnf); (repeat first | (refine wrB (by omega) ?_; conv => whnf) | (refine okB (by kernel_rfl) ?_; conv => whnf) | (refine cb (by first | rfl | omega | (simp; done) | (simp; omega)) ?_; conv => whnf) | (refine idxB_at (by decide) rfl ?_; conv => whnf) | (refine atB_at (by decide) (by decide) ?_; conv => whnf) | (refine getB_lit _ rfl ?_; conv => whnf) | (refine cnd tab_ok mix ?_; conv => whnf) | trivial))
      refine atB_eq (a + t) rfl (by omega) ?_
      ((conv => whnf); (repeat first | (refine wrB (by omega) ?_; conv => whnf) | (refine okB (by kernel_rfl) ?_; conv => whnf) | (refine cb (by first | rfl | omega | (simp; done) | (simp; omega)) ?_; conv => whnf) | (refine idxB_at (by decide) rfl ?_; conv => whnf) | (refine atB_at (by decide) (by decide) ?_; conv => whnf) | (refine getB_lit _ rfl ?_; conv => whnf) | (refine cnd tab_ok mix ?_; conv => whnf) | trivial))
      refine getB gx ?_
      ((conv => whnf); (repeat first | (refine wrB (by omega) ?_; conv => whnf) | (refine okB (by kernel_rfl) ?_; conv => whnf) | (refine cb (by first | rfl | omega | (simp; done) | (simp; omega)) ?_; conv => whnf) | (refine idxB_at (by decide) rfl ?_; conv => whnf) | (refine atB_at (by decide) (by decide) ?_; conv => whnf) | (refine getB_lit _ rfl ?_; conv => whnf) | (refine cnd tab_ok mix ?_; conv => whnf) | trivial))
      refine atB_eq (a + t) rfl (by omega) ?_
      ((conv => whnf); (repeat first | (refine wrB (by omega) ?_; conv => whnf) | (refine okB (by kernel_rfl) ?_; conv => whnf) | (refine cb (by first | rfl | omega | (simp; done) | (simp; omega)) ?_; conv => whnf) | (refine idxB_at (by decide) rfl ?_; conv => whnf) | (refine atB_at (by decide) (by decide) ?_; conv => whnf) | (refine getB_lit _ rfl ?_; conv => whnf) | (refine cnd tab_ok mix ?_; conv => whnf) | trivial))
      refine getB gx ?_
      ((conv => whnf); (repeat first | (refine wrB (by omega) ?_; conv => whnf) | (refine okB (by kernel_rfl) ?_; conv => whnf) | (refine cb (by first | rfl | omega | (simp; done) | (simp; omega)) ?_; conv => whnf) | (refine idxB_at (by decide) rfl ?_; conv => whnf) | (refine atB_at (by decide) (by decide) ?_; conv => whnf) | (refine getB_lit _ rfl ?_; conv => whnf) | (refine cnd tab_ok mix ?_; conv => whnf) | trivial))
      refine atB_eq (a + (t + 1)) (by omega) (by omega) ?_
      ((conv => whnf); (repeat first | (refine wrB (by omega) ?_; conv => whnf) | (refine okB (by kernel_rfl) ?_; conv => whnf) | (refine cb (by first | rfl | omega | (simp; done) | (simp; omega)) ?_; conv => whnf) | (refine idxB_at (by decide) rfl ?_; conv => whnf) | (refine atB_at (by decide) (by decide) ?_; conv => whnf) | (refine getB_lit _ rfl ?_; conv => whnf) | (refine cnd tab_ok mix ?_; conv => whnf) | trivial))
      refine getB_lit y.row (by rw [List.getElem?_set_ne (by omega), List.getElem?_map, gy]; rfl) ?_
      ((conv => whnf); (repeat first | (refine wrB (by omega) ?_; conv => whnf) | (refine okB (by kernel_rfl) ?_; conv => whnf) | (refine cb (by first | rfl | omega | (simp; done) | (simp; omega)) ?_; conv => whnf) | (refine idxB_at (by decide) rfl ?_; conv => whnf) | (refine atB_at (by decide) (by decide) ?_; conv => whnf) | (refine getB_lit _ rfl ?_; conv => whnf) | (refine cnd tab_ok mix ?_; conv => whnf) | trivial))
      refine .mk [] (t + 1) (by omega) (by omega) ?_
      ((conv => whnf); (repeat first | (refine wrB (by omega) ?_; conv => whnf) | (refine okB (by kernel_rfl) ?_; conv => whnf) | (refine cb (by first | rfl | omega | (simp; done) | (simp; omega)) ?_; conv => whnf) | (refine idxB_at (by decide) rfl ?_; conv => whnf) | (refine atB_at (by decide) (by decide) ?_; conv => whnf) | (refine getB_lit _ rfl ?_; conv => whnf) | (refine cnd tab_ok mix ?_; conv => whnf) | trivial))
      refine cb ?_ trivial
      refine (swap_rows (x := y) (y := x)).trans (congrArg (List.map Ev.row) ?_)
      rw [set_mid ha (by omega), set_mid ha (by rw [List.length_set]; omega), insAt_set hy]
    · have : t = q := by omega
      subst this
      refine .mk [] ?_
      ((conv => whnf); (repeat first | (refine wrB (by omega) ?_; conv => whnf) | (refine okB (by kernel_rfl) ?_; conv => whnf) | (refine cb (by first | rfl | omega | (simp; done) | (simp; omega)) ?_; conv => whnf) | (refine idxB_at (by decide) rfl ?_; conv => whnf) | (refine atB_at (by decide) (by decide) ?_; conv => whnf) | (refine getB_lit _ rfl ?_; conv => whnf) | (refine cnd tab_ok mix ?_; conv => whnf) | trivial))
      exact cb (by rw [em]) trivial
theorem symMerge2 (pre A : List Ev) (y : Ev) (post : List Ev) (hA0 : 1 < A.length) (hA : Srt cmpEv A) (ky : y.key.length < 9223372036854775807) (a m b len : Nat) (ha : a = pre.length) (hm : m = a + A.length) (hb : b = m + 1) (hlen : len = pre.length + A.length + 1 + post.length) (hl : len < 4611686018427387904) :
    LSpec Try.prog 59 [.ac 0 6 len, V.int a, V.int m, V.int b, cmpF] [(0, .dat 6 ((pre ++ (A ++ ([y] ++ post))).map Ev.row))] 1 (.tup []) [(0, .dat 6 ((pre ++ (mrg cmpEv A [y] ++ post)).map Ev.row))] 1 := by
  refine lspec tab_ok mix Try.func59 (by kernel_rfl) (by rfl) (by rfl) (by rfl) (by rfl) ?_
  ((conv => whnf); (repeat first | (refine wrB (by omega) ?_; conv => whnf) | (refine okB (by kernel_rfl) ?_; conv => whnf) | (refine cb (by first | rfl | omega | (simp; done) | (simp; omega)) ?_; conv => whnf) | (refine idxB_at (by decide) rfl ?_; conv => whnf) | (refine atB_at (by decide) (by decide) ?_; conv => whnf) | (refine getB_lit _ rfl ?_; conv => whnf) | (refine cnd tab_ok mix ?_; conv => whnf) | trivial))
  refine br_no (by simp; omega) ?_
  ((conv => whnf); (repeat first | (refine wrB (by omega) ?_; conv => whnf) | (refine okB (by kernel_rfl) ?_; conv => whnf) | (refine cb (by first | rfl | omega | (simp; done) | (simp; omega)) ?_; conv => whnf) | (refine idxB_at (by decide) rfl ?_; conv => whnf) | (refine atB_at (by decide) (by decide) ?_; conv => whnf) | (refine getB_lit _ rfl ?_; conv => whnf) | (refine cnd tab_ok mix ?_; conv => whnf) | trivial))
  refine br_yes (by simp; omega) ?_
  ((conv => whnf); (repeat first | (refine wrB (by omega) ?_; conv => whnf) | (refine okB (by kernel_rfl) ?_; conv => whnf) | (refine cb (by first | rfl | omega | (simp; done) | (simp; omega)) ?_; conv => whnf) | (refine idxB_at (by decide) rfl ?_; conv => whnf) | (refine atB_at (by decide) (by decide) ?_; conv => whnf) | (refine getB_lit _ rfl ?_; conv => whnf) | (refine cnd tab_ok mix ?_; conv => whnf) | trivial))
  refine loopB2 tab_ok mix [0, 2, 4] [0] (fun (p q : Nat) => [(14, V.int (a + p : Nat)), (15, V.int (a + q : Nat))]) (fun p q => [])
    (fun p q => p ≤ q ∧ q ≤ A.length ∧ (∀ x ∈ A.take p, ¬ cmpEv y x < 0) ∧ (∀ x ∈ A.drop q, cmpEv y x < 0)) (fun p q => q - p) [] 0 A.length rfl ⟨by omega, by omega, by simp, by simp⟩ (by ((conv => whnf); (repeat first | (refine wrB (by omega) ?_; conv => whnf) | (refine okB (by kernel_rfl) ?_; conv => whnf) | (refine cb (by first | rfl | omega | (simp; done) | (simp; omega)) ?_; conv => whnf) | (refine idxB_at (by decide) rfl ?_; conv => whnf) | (refine atB_at (by decide) (by decide) ?_; conv => whnf) | (refine getB_lit _ rfl ?_; conv => whnf) | (refine cnd tab_ok mix ?_; conv => whnf) | trivial))) ?_
  rintro p q ⟨h1, h2, h3, h4⟩
  ((conv => whnf); (repeat first | (refine wrB (by omega) ?_; conv => whnf) | (refine okB (by kernel_rfl) ?_; conv => whnf) | (refine cb (by first | rfl | omega | (simp; done) | (simp; omega)) ?_; conv => whnf) | (refine idxB_at (by decide) rfl ?_; conv => whnf) | (refine atB_at (by decide) (by decide) ?_; conv => whnf) | (refine getB_lit _ rfl ?_; conv => whnf) | (refine cnd tab_ok mix ?_; conv => whnf) | trivial))
  refine br_dec (fun g => ?_) (fun g => ?_) <;> ((conv => whnf); (repeat first | (refine wrB (by omega) ?_; conv => whnf) | (refine okB (by kernel_rfl) ?_; conv => whnf) | (refine cb (by first | rfl | omega | (simp; done) | (simp; omega)) ?_; conv => whnf) | (refine idxB_at (by decide) rfl ?_; conv => whnf) | (refine atB_at (by decide) (by decide) ?_; conv => whnf) | (refine getB_lit _ rfl ?_; conv => whnf) | (refine cnd tab_ok mix ?_; conv => whnf) | trivial))
  · have hr1 : p ≤ (p + q) / 2 := by omega
    have hr2 : (p + q) / 2 < q := by omega
    have hrm : (a + p + (a + q)) / 2 = a + (p + q) / 2 := by omega
    generalize (p + q) / 2 = r at hr1 hr2 hrm
    obtain ⟨x, hx⟩ := get_lt (show r < A.length by omega)
    have gx : (pre ++ (A ++ ([y] ++ post)))[a + r]? = some x := get_mid ha hx
    have gy : (pre ++ (A ++ ([y] ++ post)))[m]? = some y := by
      rw [← List.append_assoc pre]
      exact get_mid (i := 0) (by simp; omega) rfl
    refine wrU (by omega) ?_
    ((conv => whnf); (repeat first | (refine wrB (by omega) ?_; conv => whnf) | (refine okB (by kernel_rfl) ?_; conv => whnf) | (refine cb (by first | rfl | omega | (simp; done) | (simp; omega)) ?_; conv => whnf) | (refine idxB_at (by decide) rfl ?_; conv => whnf) | (refine atB_at (by decide) (by decide) ?_; conv => whnf) | (refine getB_lit _ rfl ?_; conv => whnf) | (refine cnd tab_ok mix ?_; conv => whnf) | trivial))
    refine half (a + r) hrm (by omega) ?_
    ((conv => whnf); (repeat first | (refine wrB (by omega) ?_; conv => whnf) | (refine okB (by kernel_rfl) ?_; conv => whnf) | (refine cb (by first | rfl | omega | (simp; done) | (simp; omega)) ?_; conv => whnf) | (refine idxB_at (by decide) rfl ?_; conv => whnf) | (refine atB_at (by decide) (by decide) ?_; conv => whnf) | (refine getB_lit _ rfl ?_; conv => whnf) | (refine cnd tab_ok mix ?_; conv => whnf) | trivial))
    refine atB_eq m rfl (by omega) ?_
    ((conv => whnf); (repeat first | (refine wrB (by omega) ?_; conv => whnf) | (refine okB (by kernel_rfl) ?_; conv => whnf) | (refine cb (by first | rfl | omega | (simp; done) | (simp; omega)) ?_; conv => whnf) | (refine idxB_at (by decide) rfl ?_; conv => whnf) | (refine atB_at (by decide) (by decide) ?_; conv => whnf) | (refine getB_lit _ rfl ?_; conv => whnf) | (refine cnd tab_ok mix ?_; conv => whnf) | trivial))
    refine getB gy ?_
    ((conv => whnf); (repeat first | (refine wrB (by omega) ?_; conv => whnf) | (refine okB (by kernel_rfl) ?_; conv => whnf) | (refine cb (by first | rfl | omega | (simp; done) | (simp; omega)) ?_; conv => whnf) | (refine idxB_at (by decide) rfl ?_; conv => whnf) | (refine atB_at (by decide) (by decide) ?_; conv => whnf) | (refine getB_lit _ rfl ?_; conv => whnf) | (refine cnd tab_ok mix ?_; conv => whnf) | trivial))
    refine atB_eq (a + r) rfl (by omega) ?_
    ((conv => whnf); (repeat first | (refine wrB (by omega) ?_; conv => whnf) | (refine okB (by kernel_rfl) ?_; conv => whnf) | (refine cb (by first | rfl | omega | (simp; done) | (simp; omega)) ?_; conv => whnf) | (refine idxB_at (by decide) rfl ?_; conv => whnf) | (refine atB_at (by decide) (by decide) ?_; conv => whnf) | (refine getB_lit _ rfl ?_; conv => whnf) | (refine cnd tab_ok mix ?_; conv => whnf) | trivial))
    refine getB gx ?_
    ((conv => whnf); (repeat first | (refine wrB (by omega) ?_; conv => whnf) | (refine okB (by kernel_rfl) ?_; conv => whnf) | (refine cb (by first | rfl | omega | (simp; done) | (simp; omega)) ?_; conv => whnf) | (refine idxB_at (by decide) rfl ?_; conv => whnf) | (refine atB_at (by decide) (by decide) ?_; conv => whnf) | (refine getB_lit _ rfl ?_; conv => whnf) | (refine cnd tab_ok mix ?_; conv => whnf) | trivial))
    refine dcallB (compareEvents y x ky) ?_
    ((conv => whnf); (repeat first | (refine wrB (by omega) ?_; conv => whnf) | (refine okB (by kernel_rfl) ?_; conv => whnf) | (refine cb (by first | rfl | omega | (simp; done) | (simp; omega)) ?_; conv => whnf) | (refine idxB_at (by decide) rfl ?_; conv => whnf) | (refine atB_at (by decide) (by decide) ?_; conv => whnf) | (refine getB_lit _ rfl ?_; conv => whnf) | (refine cnd tab_ok mix ?_; conv => whnf) | trivial))
    refine br_dec (fun k => ?_) (fun k => ?_) <;> ((conv => whnf); (repeat first | (refine wrB (by omega) ?_; conv => whnf) | (refine okB (by kernel_rfl) ?_; conv => whnf) | (refine cb (by first | rfl | omega | (simp; done) | (simp; omega)) ?_; conv => whnf) | (refine idxB_at (by decide) rfl ?_; conv => whnf) | (refine atB_at (by decide) (by decide) ?_; conv => whnf) | (refine getB_lit _ rfl ?_; conv => whnf) | (refine cnd tab_ok mix ?_; conv => whnf) | trivial))
    · refine .mk [] p r ⟨by omega, by omega, h3, fun z hz => cmpEvC.lt_le k (srt_drop hA leEv_refl hx z hz)⟩ (by dsimp only; omega) ?_
      ((conv => whnf); (repeat first | (refine wrB (by omega) ?_; conv => whnf) | (refine okB (by kernel_rfl) ?_; conv => whnf) | (refine cb (by first | rfl | omega | (simp; done) | (simp; omega)) ?_; conv => whnf) | (refine idxB_at (by decide) rfl ?_; conv => whnf) | (refine atB_at (by decide) (by decide) ?_; conv => whnf) | (refine getB_lit _ rfl ?_; conv => whnf) | (refine cnd tab_ok mix ?_; conv => whnf) | trivial))
    · refine .mk [] (r + 1) q ⟨by omega, h2, fun z hz => cmpEvC.le_trans (srt_take hA leEv_refl hx z hz) k, h4⟩ (by dsimp only; omega) ?_
      ((conv => whnf); (repeat first | (refine wrB (by omega) ?_; conv => whnf) | (refine okB (by kernel_rfl) ?_; conv => whnf) | (refine cb (by first | rfl | omega | (simp; done) | (simp; omega)) ?_; conv => whnf) | (refine idxB_at (by decide) rfl ?_; conv => whnf) | (refine atB_at (by decide) (by decide) ?_; conv => whnf) | (refine getB_lit _ rfl ?_; conv => whnf) | (refine cnd tab_ok mix ?_; conv => whnf) | trivial))
  · have hpq : q = p := by omega
    subst hpq
    have em := mrg_last q h3 h4
    refine loopB tab_ok mix [0, 14] [] (fun t : Nat => [(17, V.int (a + t : Nat))]) (fun t => [(0, .dat 6 ((pre ++ ((A.take t ++ y :: A.drop t) ++ post)).map Ev.row))]) (fun t => q ≤ t ∧ t ≤ A.length) (fun t => t) [] A.length rfl ⟨by omega, by omega⟩ (by ((conv => whnf); (repeat first | (refine wrB (by omega) ?_; conv => whnf) | (refine okB (by kernel_rfl) ?_; conv => whnf) | (refine cb (by first | rfl | omega | (simp; done) | (simp; omega)) ?_; conv => whnf) | (refine idxB_at (by decide) rfl ?_; conv => whnf) | (refine atB_at (by decide) (by decide) ?_; conv => whnf) | (refine getB_lit _ rfl ?_; conv => whnf) | (refine cnd tab_ok mix ?_; conv => whnf) | trivial))) ?_
    rintro t ⟨ht1, ht⟩
    ((conv => whnf); (repeat first | (refine wrB (by omega) ?_; conv => whnf) | (refine okB (by kernel_rfl) ?_; conv => whnf) | (refine cb (by first | rfl | omega | (simp; done) | (simp; omega)) ?_; conv => whnf) | (refine idxB_at (by decide) rfl ?_; conv => whnf) | (refine atB_at (by decide) (by decide) ?_; conv => whnf) | (refine getB_lit _ rfl ?_; conv => whnf) | (refine cnd tab_ok mix ?_; conv => whnf) | trivial))
    refine br_dec (fun k => ?_) (fun k => ?_) <;> ((conv => whnf); (repeat first | (refine wrB (by omega) ?_; conv => whnf) | (refine okB (by kernel_rfl) ?_; conv => whnf) | (refine cb (by first | rfl | omega | (simp; done) | (simp; omega)) ?_; conv => whnf) | (refine idxB_at (by decide) rfl ?_; conv => whnf) | (refine atB_at (by decide) (by decide) ?_; conv => whnf) | (refine getB_lit _ rfl ?_; conv => whnf) | (refine cnd tab_ok mix ?_; conv => whnf) | trivial))
    · obtain ⟨u, rfl⟩ : ∃ u, t = u + 1 := ⟨t - 1, by omega⟩
      obtain ⟨x, hx⟩ := get_lt (show u < A.length by omega)
      have gy : (pre ++ ((A.take (u + 1) ++ y :: A.drop (u + 1)) ++ post))[a + (u + 1)]? = some y := get_mid ha (insAt_get ht)
      have gx : (pre ++ ((A.take (u + 1) ++ y :: A.drop (u + 1)) ++ post))[a + u]? = some x := get_mid ha (insAt_getB hx)
      have hli : (A.take (u + 1) ++ y :: A.drop (u + 1)).length = A.length + 1 := by simp; omega
      refine atB_eq (a + u) (by omega) (by omega) ?_
      ((conv => whnf); (repeat first | (refine wrB (by omega) ?_; conv => whnf) | (refine okB (by kernel_rfl) ?_; conv => whnf) | (refine cb (by first | rfl | omega | (simp; done) | (simp; omega)) ?_; conv => whnf) | (refine idxB_at (by decide) rfl ?_; conv => whnf) | (refine atB_at (by decide) (by decide) ?_; conv => whnf) | (refine getB_lit _ rfl ?_; conv => whnf) | (refine cnd tab_ok mix ?_; conv => whnf) | trivial))
      refine getB gx ?_
      ((conv => whnf); (repeat first | (refine wrB (by omega) ?_; conv => whnf) | (refine okB (by kernel_rfl) ?_; conv => whnf) | (refine cb (by first | rfl | omega | (simp; done) | (simp; omega)) ?_; conv => whnf) | (refine idxB_at (by decide) rfl ?_; conv => whnf) | (refine atB_at (by decide) (by decide) ?_; conv => whnf) | (refine getB_lit _ rfl ?_; conv => whnf) | (refine cnd tab_ok mix ?_; conv => whnf) | trivial))
      refine atB_eq (a + (u + 1)) rfl (by omega) ?_
      ((conv => whnf); (repeat first | (refine wrB (by omega) ?_; conv => whnf) | (refine okB (by kernel_rfl) ?_; conv => whnf) | (refine cb (by first | rfl | omega | (simp; done) | (simp; omega)) ?_; conv => whnf) | (refine idxB_at (by decide) rfl ?_; conv => whnf) | (refine atB_at (by decide) (by decide) ?_; conv => whnf) | (refine getB_lit _ rfl ?_; conv => whnf) | (refine cnd tab_ok mix ?_; conv => whnf) | trivial))
      refine getB gy ?_
      ((conv => whnf); (repeat first | (refine wrB (by omega) ?_; conv => whnf) | (refine okB (by kernel_rfl) ?_; conv => whnf) | (refine cb (by first | rfl | omega | (simp; done) | (simp; omega)) ?_; conv => whnf) | (refine idxB_at (by decide) rfl ?_; conv => whnf) | (refine atB_at (by decide) (by decide) ?_; conv => whnf) | (refine getB_lit _ rfl ?_; conv => whnf) | (refine cnd tab_ok mix ?_; conv => whnf) | trivial))
      refine atB_eq (a + (u + 1)) rfl (by omega) ?_
      ((conv => whnf); (repeat first | (refine wrB (by omega) ?_; conv => whnf) | (refine okB (by kernel_rfl) ?_; conv => whnf) | (refine cb (by first | rfl | omega | (simp; done) | (simp; omega)) ?_; conv => whnf) | (refine idxB_at (by decide) rfl ?_; conv => whnf) | (refine atB_at (by decide) (by decide) ?_; conv => whnf) | (refine getB_lit _ rfl ?_; conv => whnf) | (refine cnd tab_ok mix ?_; conv => whnf) | trivial))
      refine getB gy ?_
      ((conv => whnf); (repeat first | (refine wrB (by omega) ?_; conv => whnf) | (refine okB (by kernel_rfl) ?_; conv => whnf) | (refine cb (by first | rfl | omega | (simp; done) | (simp; omega)) ?_; conv => whnf) | (refine idxB_at (by decide) rfl ?_; conv => whnf) | (refine atB_at (by decide) (by decide) ?_; conv => whnf) | (refine getB_lit _ rfl ?_; conv => whnf) | (refine cnd tab_ok mix ?_; conv => whnf) | trivial))
      refine atB_eq (a + u) (by omega) (by omega) ?_
      ((conv => whnf); (repeat first | (refine wrB (by omega) ?_; conv => whnf) | (refine okB (by kernel_rfl) ?_; conv => whnf) | (refine cb (by first | rfl | omega | (simp; done) | (simp; omega)) ?_; conv => whnf) | (refine idxB_at (by decide) rfl ?_; conv => whnf) | (refine atB_at (by decide) (by decide) ?_; conv => whnf) | (refine getB_lit _ rfl ?_; conv => whnf) | (refine cnd tab_ok mix ?_; conv => whnf) | trivial))
      refine getB_lit x.row (by rw [List.getElem?_set_ne (by omega), List.getElem?_map, gx]; rfl) ?_
      ((conv => whnf); (repeat first | (refine wrB (by omega) ?_; conv => whnf) | (refine okB (by kernel_rfl) ?_; conv => whnf) | (refine cb (by first | rfl | omega | (simp; done) | (simp; omega)) ?_; conv => whnf) | (refine idxB_at (by decide) rfl ?_; conv => whnf) | (refine atB_at (by decide) (by decide) ?_; conv => whnf) | (refine getB_lit _ rfl ?_; conv => whnf) | (refine cnd tab_ok mix ?_; conv => whnf) | trivial))
      refine .mk [] u ⟨by omega, by omega⟩ (by omega) ?_
      ((conv => whnf); (repeat first | (refine wrB (by omega) ?_; conv => whnf) | (refine okB (by kernel_rfl) ?_; conv => whnf) | (refine cb (by first | rfl | omega | (simp; done) | (simp; omega)) ?_; conv => whnf) | (refine idxB_at (by decide) rfl ?_; conv => whnf) | (refine atB_at (by decide) (by decide) ?_; conv => whnf) | (refine getB_lit _ rfl ?_; conv => whnf) | (refine cnd tab_ok mix ?_; conv => whnf) | trivial))
      refine cb ?_ trivial
      refine (swap_rows (x := x) (y := y)).trans (congrArg (List.map Ev.row) ?_)
      rw [set_mid ha (by omega), set_mid ha (by rw [List.length_set]; omega), insAt_back hx]
    · have : t = q := by omega
      subst this
      refine .mk [] ?_
      ((conv => whnf); (repeat first | (refine wrB (by omega) ?_; conv => whnf) | (refine okB (by kernel_rfl) ?_; conv => whnf) | (refine cb (by first | rfl | omega | (simp; done) | (simp; omega)) ?_; conv => whnf) | (refine idxB_at (by decide) rfl ?_; conv => whnf) | (refine atB_at (by decide) (by decide) ?_; conv => whnf) | (refine getB_lit _ rfl ?_; conv => whnf) | (refine cnd tab_ok mix ?_; conv => whnf) | trivial))
      exact cb (by rw [em]) trivial
end Go.Proofs.Ytepepidjefpckaa.Abs
