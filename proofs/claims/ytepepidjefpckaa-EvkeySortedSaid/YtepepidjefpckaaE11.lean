/- The stable sort of slices, over events: merging in place, whole. -/
import Derived.Test.YtepepidjefpckaaE10
namespace Go.Proofs.Ytepepidjefpckaa.Abs
open Go.Proofs
set_option maxRecDepth 10000
set_option linter.unusedSimpArgs false
set_option linter.unusedVariables false

/-- where the search of symMerge ends, the parts are merged apart -/
theorem cut_ok {A B : List Ev} (hA : Srt cmpEv A) (hB : Srt cmpEv B) {K s : Nat} (h1 : s ≤ A.length) (h2 : s ≤ K) (h3 : K - s ≤ B.length)
    (p1 : ∀ x y, 0 < s → K - s < B.length → A[s - 1]? = some x → B[K - s]? = some y → ¬ cmpEv y x < 0)
    (p2 : ∀ x y, s < A.length → s < K → A[s]? = some x → B[K - 1 - s]? = some y → cmpEv y x < 0) :
    mrg cmpEv A B = mrg cmpEv (A.take s) (B.take (K - s)) ++ mrg cmpEv (A.drop s) (B.drop (K - s)) := by
  have e := mrg_split (c := cmpEv) (A.take s) (B.take (K - s)) (A.drop s) (B.drop (K - s)) (fun y hy x hx => ?_) (fun x hx y hy => ?_)
  · rw [List.take_append_drop, List.take_append_drop] at e; exact e
  · have q1 : s < A.length := by
      have := List.length_pos_of_mem hx; rw [List.length_drop] at this; omega
    have q2 : s < K := by
      have := List.length_pos_of_mem hy; rw [List.length_take] at this; omega
    obtain ⟨x0, hx0⟩ := get_lt q1
    obtain ⟨y0, hy0⟩ := get_lt (show K - 1 - s < B.length by omega)
    have hlt := p2 x0 y0 q1 q2 hx0 hy0
    have hyy := srt_take hB leEv_refl hy0 y (by rw [show K - 1 - s + 1 = K - s by omega]; exact hy)
    have hxx := srt_drop hA leEv_refl hx0 x hx
    exact cmpEvC.lt_le (cmpEvC.le_lt hyy hlt) hxx
  · have q1 : 0 < s := by
      have := List.length_pos_of_mem hx; rw [List.length_take] at this; omega
    have q2 : K - s < B.length := by
      have := List.length_pos_of_mem hy; rw [List.length_drop] at this; omega
    obtain ⟨x0, hx0⟩ := get_lt (show s - 1 < A.length by omega)
    obtain ⟨y0, hy0⟩ := get_lt q2
    have hle := p1 x0 y0 q1 q2 hx0 hy0
    have hxx := srt_take hA leEv_refl hx0 x (by rw [show s - 1 + 1 = s by omega]; exact hx)
    have hyy := srt_drop hB leEv_refl hy0 y hy
    exact cmpEvC.le_trans (cmpEvC.le_trans hxx hle) hyy
theorem srt_sub {A : List Ev} (hA : Srt cmpEv A) (s : Nat) : Srt cmpEv (A.take s) ∧ Srt cmpEv (A.drop s) := ⟨hA.sublist (List.take_sublist _ _), hA.sublist (List.drop_sublist _ _)⟩
theorem keys_sub {A : List Ev} (hA : keysOk A) (s : Nat) : keysOk (A.take s) ∧ keysOk (A.drop s) := ⟨fun x h => hA x (List.mem_of_mem_take h), fun x h => hA x (List.mem_of_mem_drop h)⟩
theorem mrg_empty {α : Type} {c : α → α → Int} {A B : List α} (h : A.length = 0 ∨ B.length = 0) : mrg c A B = A ++ B := by
  rcases h with h | h
  · rw [List.eq_nil_of_length_eq_zero h]; rfl
  · rw [List.eq_nil_of_length_eq_zero h, mrg_nil, List.append_nil]
theorem rows_swap {pre post A B A1 A2 B1 B2 : List Ev} (eA : A = A1 ++ A2) (eB : B = B1 ++ B2) (h : A2.length = 0 ∨ B1.length = 0) : pre ++ (A ++ (B ++ post)) = (pre ++ A1) ++ (B1 ++ (A2 ++ (B2 ++ post))) := by
  rw [eA, eB]
  rcases h with h | h <;> rw [List.eq_nil_of_length_eq_zero h] <;> simp
set_option maxHeartbeats 4000000 in
theorem symMerge : ∀ (N : Nat) (pre A B post : List Ev), A.length + B.length ≤ N → 0 < A.length → 0 < B.length → Srt cmpEv A → Srt cmpEv B → keysOk A → keysOk B → ∀ (a m b len : Nat), a = pre.length → m = a + A.length → b = m + B.length → len = pre.length + A.length + B.length + post.length → len < 4611686018427387904 →
    LSpec Try.prog 59 [.ac 0 6 len, V.int a, V.int m, V.int b, cmpF] [(0, .dat 6 ((pre ++ (A ++ (B ++ post))).map Ev.row))] 1 (.tup []) [(0, .dat 6 ((pre ++ (mrg cmpEv A B ++ post)).map Ev.row))] 1 := by
  intro N
  induction N with
  | zero => intro pre A B post h1 h2; omega
  | succ N ih =>
  intro pre A B post hN hA0 hB0 hA hB kA kB a m b len ha hm hb hlen hl
  by_cases c1 : A.length = 1
  · obtain ⟨x, rfl⟩ := List.length_eq_one_iff.1 c1
    exact symMerge1 pre x B post hB kB a m b len ha hm hb hlen hl
  by_cases c2 : B.length = 1
  · obtain ⟨y, rfl⟩ := List.length_eq_one_iff.1 c2
    exact symMerge2 pre A y post (by omega) hA (kB y (by simp)) a m b len ha hm hb hlen hl
  refine lspec tab_ok mix Try.func59 (by kernel_rfl) (by rfl) (by rfl) (by rfl) (by rfl) ?_
  ((conv => whnf); (repeat first | (refine wrB (by omega) ?_; conv => whnf) | (refine okB (by kernel_rfl) ?_; conv => whnf) | (refine cb (by first | rfl | omega | (simp; done) | (simp; omega)) ?_; conv => whnf) | (refine idxB_at (by decide) rfl ?_; conv => whnf) | (refine atB_at (by decide) (by decide) ?_; conv => whnf) | (refine getB_lit _ rfl ?_; conv => whnf) | (refine cnd tab_ok mix ?_; conv => whnf) | trivial))
  refine br_no (by simp; omega) ?_
  ((conv => whnf); (repeat first | (refine wrB (by omega) ?_; conv => whnf) | (refine okB (by kernel_rfl) ?_; conv => whnf) | (refine cb (by first | rfl | omega | (simp; done) | (simp; omega)) ?_; conv => whnf) | (refine idxB_at (by decide) rfl ?_; conv => whnf) | (refine atB_at (by decide) (by decide) ?_; conv => whnf) | (refine getB_lit _ rfl ?_; conv => whnf) | (refine cnd tab_ok mix ?_; conv => whnf) | trivial))
  refine br_no (by simp; omega) ?_
  ((conv => whnf); (repeat first | (refine wrB (by omega) ?_; conv => whnf) | (refine okB (by kernel_rfl) ?_; conv => whnf) | (refine cb (by first | rfl | omega | (simp; done) | (simp; omega)) ?_; conv => whnf) | (refine idxB_at (by decide) rfl ?_; conv => whnf) | (refine atB_at (by decide) (by decide) ?_; conv => whnf) | (refine getB_lit _ rfl ?_; conv => whnf) | (refine cnd tab_ok mix ?_; conv => whnf) | trivial))
  obtain ⟨K, hK⟩ : ∃ K, (A.length + B.length) / 2 = K := ⟨_, rfl⟩
  have hM : (a + b) / 2 = a + K := by omega
  obtain ⟨lo, hlo⟩ : ∃ lo, lo = K - B.length := ⟨_, rfl⟩
  obtain ⟨hi, hhi⟩ : ∃ hi, hi = min K A.length := ⟨_, rfl⟩
  refine wrU (by omega) ?_
  ((conv => whnf); (repeat first | (refine wrB (by omega) ?_; conv => whnf) | (refine okB (by kernel_rfl) ?_; conv => whnf) | (refine cb (by first | rfl | omega | (simp; done) | (simp; omega)) ?_; conv => whnf) | (refine idxB_at (by decide) rfl ?_; conv => whnf) | (refine atB_at (by decide) (by decide) ?_; conv => whnf) | (refine getB_lit _ rfl ?_; conv => whnf) | (refine cnd tab_ok mix ?_; conv => whnf) | trivial))
  refine half (a + K) hM (by omega) ?_
  ((conv => whnf); (repeat first | (refine wrB (by omega) ?_; conv => whnf) | (refine okB (by kernel_rfl) ?_; conv => whnf) | (refine cb (by first | rfl | omega | (simp; done) | (simp; omega)) ?_; conv => whnf) | (refine idxB_at (by decide) rfl ?_; conv => whnf) | (refine atB_at (by decide) (by decide) ?_; conv => whnf) | (refine getB_lit _ rfl ?_; conv => whnf) | trivial))
  refine joinB tab_ok mix [0, 1, 2, 3, 4, 18, 19] [0] (fun _ : Unit => [(20, V.int (a + lo : Nat)), (21, V.int (a + hi : Nat))]) (fun _ => []) (fun _ => True) ?_ ?_
  · ((conv => whnf); (repeat first | (refine wrB (by omega) ?_; conv => whnf) | (refine okB (by kernel_rfl) ?_; conv => whnf) | (refine cb (by first | rfl | omega | (simp; done) | (simp; omega)) ?_; conv => whnf) | (refine idxB_at (by decide) rfl ?_; conv => whnf) | (refine atB_at (by decide) (by decide) ?_; conv => whnf) | (refine getB_lit _ rfl ?_; conv => whnf) | (refine cnd tab_ok mix ?_; conv => whnf) | trivial))
    refine br_dec (fun hmM => ?_) (fun hmM => ?_) <;> ((conv => whnf); (repeat first | (refine wrB (by omega) ?_; conv => whnf) | (refine okB (by kernel_rfl) ?_; conv => whnf) | (refine cb (by first | rfl | omega | (simp; done) | (simp; omega)) ?_; conv => whnf) | (refine idxB_at (by decide) rfl ?_; conv => whnf) | (refine atB_at (by decide) (by decide) ?_; conv => whnf) | (refine getB_lit _ rfl ?_; conv => whnf) | (refine cnd tab_ok mix ?_; conv => whnf) | trivial))
    · refine .mk [] () trivial ?_
      ((conv => whnf); (repeat first | (refine wrB (by omega) ?_; conv => whnf) | (refine okB (by kernel_rfl) ?_; conv => whnf) | (refine cb (by first | rfl | omega | (simp; done) | (simp; omega)) ?_; conv => whnf) | (refine idxB_at (by decide) rfl ?_; conv => whnf) | (refine atB_at (by decide) (by decide) ?_; conv => whnf) | (refine getB_lit _ rfl ?_; conv => whnf) | (refine cnd tab_ok mix ?_; conv => whnf) | trivial))
    · refine .mk [] () trivial ?_
      ((conv => whnf); (repeat first | (refine wrB (by omega) ?_; conv => whnf) | (refine okB (by kernel_rfl) ?_; conv => whnf) | (refine cb (by first | rfl | omega | (simp; done) | (simp; omega)) ?_; conv => whnf) | (refine idxB_at (by decide) rfl ?_; conv => whnf) | (refine atB_at (by decide) (by decide) ?_; conv => whnf) | (refine getB_lit _ rfl ?_; conv => whnf) | (refine cnd tab_ok mix ?_; conv => whnf) | trivial))
  rintro ⟨⟩ _
  ((conv => whnf); (repeat first | (refine wrB (by omega) ?_; conv => whnf) | (refine okB (by kernel_rfl) ?_; conv => whnf) | (refine cb (by first | rfl | omega | (simp; done) | (simp; omega)) ?_; conv => whnf) | (refine idxB_at (by decide) rfl ?_; conv => whnf) | (refine atB_at (by decide) (by decide) ?_; conv => whnf) | (refine getB_lit _ rfl ?_; conv => whnf) | (refine cnd tab_ok mix ?_; conv => whnf) | trivial))
  refine loopB2 tab_ok mix [0, 1, 2, 3, 4, 18, 19, 22] [0] (fun (s t : Nat) => [(20, V.int (a + s : Nat)), (21, V.int (a + t : Nat))]) (fun s t => [])
    (fun s t => lo ≤ s ∧ s ≤ t ∧ t ≤ hi ∧ (∀ x y, lo < s → A[s - 1]? = some x → B[K - s]? = some y → ¬ cmpEv y x < 0) ∧ (∀ x y, t < hi → A[t]? = some x → B[K - 1 - t]? = some y → cmpEv y x < 0)) (fun s t => t - s) [] lo hi rfl ⟨by omega, by omega, by omega, fun x y h => by omega, fun x y h => by omega⟩ (by ((conv => whnf); (repeat first | (refine wrB (by omega) ?_; conv => whnf) | (refine okB (by kernel_rfl) ?_; conv => whnf) | (refine cb (by first | rfl | omega | (simp; done) | (simp; omega)) ?_; conv => whnf) | (refine idxB_at (by decide) rfl ?_; conv => whnf) | (refine atB_at (by decide) (by decide) ?_; conv => whnf) | (refine getB_lit _ rfl ?_; conv => whnf) | (refine cnd tab_ok mix ?_; conv => whnf) | trivial))) ?_
  rintro s t ⟨h1, h2, h3, h4, h5⟩
  ((conv => whnf); (repeat first | (refine wrB (by omega) ?_; conv => whnf) | (refine okB (by kernel_rfl) ?_; conv => whnf) | (refine cb (by first | rfl | omega | (simp; done) | (simp; omega)) ?_; conv => whnf) | (refine idxB_at (by decide) rfl ?_; conv => whnf) | (refine atB_at (by decide) (by decide) ?_; conv => whnf) | (refine getB_lit _ rfl ?_; conv => whnf) | (refine cnd tab_ok mix ?_; conv => whnf) | trivial))
  refine br_dec (fun g => ?_) (fun g => ?_) <;> ((conv => whnf); (repeat first | (refine wrB (by omega) ?_; conv => whnf) | (refine okB (by kernel_rfl) ?_; conv => whnf) | (refine cb (by first | rfl | omega | (simp; done) | (simp; omega)) ?_; conv => whnf) | (refine idxB_at (by decide) rfl ?_; conv => whnf) | (refine atB_at (by decide) (by decide) ?_; conv => whnf) | (refine getB_lit _ rfl ?_; conv => whnf) | trivial))
  · have hr1 : s ≤ (s + t) / 2 := by omega
    have hr2 : (s + t) / 2 < t := by omega
    have hrm : (a + s + (a + t)) / 2 = a + (s + t) / 2 := by omega
    generalize (s + t) / 2 = u at hr1 hr2 hrm
    obtain ⟨x, hx⟩ := get_lt (show u < A.length by omega)
    obtain ⟨y, hy⟩ := get_lt (show K - 1 - u < B.length by omega)
    have gx : (pre ++ (A ++ (B ++ post)))[a + u]? = some x := get_mid ha hx
    have gy : (pre ++ (A ++ (B ++ post)))[m + (K - 1 - u)]? = some y := by
      rw [← List.append_assoc pre]
      exact get_mid (by simp; omega) hy
    refine wrU (by omega) ?_
    ((conv => whnf); (repeat first | (refine wrB (by omega) ?_; conv => whnf) | (refine okB (by kernel_rfl) ?_; conv => whnf) | (refine cb (by first | rfl | omega | (simp; done) | (simp; omega)) ?_; conv => whnf) | (refine idxB_at (by decide) rfl ?_; conv => whnf) | (refine atB_at (by decide) (by decide) ?_; conv => whnf) | (refine getB_lit _ rfl ?_; conv => whnf) | (refine cnd tab_ok mix ?_; conv => whnf) | trivial))
    refine half (a + u) hrm (by omega) ?_
    ((conv => whnf); (repeat first | (refine wrB (by omega) ?_; conv => whnf) | (refine okB (by kernel_rfl) ?_; conv => whnf) | (refine cb (by first | rfl | omega | (simp; done) | (simp; omega)) ?_; conv => whnf) | (refine idxB_at (by decide) rfl ?_; conv => whnf) | (refine atB_at (by decide) (by decide) ?_; conv => whnf) | (refine getB_lit _ rfl ?_; conv => whnf) | (refine cnd tab_ok mix ?_; conv => whnf) | trivial))
    refine atB_eq (m + (K - 1 - u)) (by omega) (by omega) ?_
    ((conv => whnf); (repeat first | (refine wrB (by omega) ?_; conv => whnf) | (refine okB (by kernel_rfl) ?_; conv => whnf) | (refine cb (by first | rfl | omega | (simp; done) | (simp; omega)) ?_; conv => whnf) | (refine idxB_at (by decide) rfl ?_; conv => whnf) | (refine atB_at (by decide) (by decide) ?_; conv => whnf) | (refine getB_lit _ rfl ?_; conv => whnf) | (refine cnd tab_ok mix ?_; conv => whnf) | trivial))
    refine getB gy ?_
    ((conv => whnf); (repeat first | (refine wrB (by omega) ?_; conv => whnf) | (refine okB (by kernel_rfl) ?_; conv => whnf) | (refine cb (by first | rfl | omega | (simp; done) | (simp; omega)) ?_; conv => whnf) | (refine idxB_at (by decide) rfl ?_; conv => whnf) | (refine atB_at (by decide) (by decide) ?_; conv => whnf) | (refine getB_lit _ rfl ?_; conv => whnf) | (refine cnd tab_ok mix ?_; conv => whnf) | trivial))
    refine atB_eq (a + u) rfl (by omega) ?_
    ((conv => whnf); (repeat first | (refine wrB (by omega) ?_; conv => whnf) | (refine okB (by kernel_rfl) ?_; conv => whnf) | (refine cb (by first | rfl | omega | (simp; done) | (simp; omega)) ?_; conv => whnf) | (refine idxB_at (by decide) rfl ?_; conv => whnf) | (refine atB_at (by decide) (by decide) ?_; conv => whnf) | (refine getB_lit _ rfl ?_; conv => whnf) | (refine cnd tab_ok mix ?_; conv => whnf) | trivial))
    refine getB gx ?_
    ((conv => whnf); (repeat first | (refine wrB (by omega) ?_; conv => whnf) | (refine okB (by kernel_rfl) ?_; conv => whnf) | (refine cb (by first | rfl | omega | (simp; done) | (simp; omega)) ?_; conv => whnf) | (refine idxB_at (by decide) rfl ?_; conv => whnf) | (refine atB_at (by decide) (by decide) ?_; conv => whnf) | (refine getB_lit _ rfl ?_; conv => whnf) | (refine cnd tab_ok mix ?_; conv => whnf) | trivial))
    refine dcallB (compareEvents y x (kB y (List.mem_of_getElem? hy))) ?_
    ((conv => whnf); (repeat first | (refine wrB (by omega) ?_; conv => whnf) | (refine okB (by kernel_rfl) ?_; conv => whnf) | (refine cb (by first | rfl | omega | (simp; done) | (simp; omega)) ?_; conv => whnf) | (refine idxB_at (by decide) rfl ?_; conv => whnf) | (refine atB_at (by decide) (by decide) ?_; conv => whnf) | (refine getB_lit _ rfl ?_; conv => whnf) | (refine cnd tab_ok mix ?_; conv => whnf) | trivial))
    refine br_dec (fun k => ?_) (fun k => ?_) <;> ((conv => whnf); (repeat first | (refine wrB (by omega) ?_; conv => whnf) | (refine okB (by kernel_rfl) ?_; conv => whnf) | (refine cb (by first | rfl | omega | (simp; done) | (simp; omega)) ?_; conv => whnf) | (refine idxB_at (by decide) rfl ?_; conv => whnf) | (refine atB_at (by decide) (by decide) ?_; conv => whnf) | (refine getB_lit _ rfl ?_; conv => whnf) | (refine cnd tab_ok mix ?_; conv => whnf) | trivial))
    · refine .mk [] s u ⟨by omega, by omega, by omega, h4, fun x' y' _ e1 e2 => ?_⟩ (by dsimp only; omega) ?_
      · rw [hx] at e1; rw [hy] at e2; cases e1; cases e2; exact k
      · ((conv => whnf); (repeat first | (refine wrB (by omega) ?_; conv => whnf) | (refine okB (by kernel_rfl) ?_; conv => whnf) | (refine cb (by first | rfl | omega | (simp; done) | (simp; omega)) ?_; conv => whnf) | (refine idxB_at (by decide) rfl ?_; conv => whnf) | (refine atB_at (by decide) (by decide) ?_; conv => whnf) | (refine getB_lit _ rfl ?_; conv => whnf) | (refine cnd tab_ok mix ?_; conv => whnf) | trivial))
    · refine .mk [] (u + 1) t ⟨by omega, by omega, by omega, fun x' y' _ e1 e2 => ?_, h5⟩ (by dsimp only; omega) ?_
      · rw [show u + 1 - 1 = u by omega, hx] at e1
        rw [show K - (u + 1) = K - 1 - u by omega, hy] at e2
        cases e1; cases e2; exact k
      · ((conv => whnf); (repeat first | (refine wrB (by omega) ?_; conv => whnf) | (refine okB (by kernel_rfl) ?_; conv => whnf) | (refine cb (by first | rfl | omega | (simp; done) | (simp; omega)) ?_; conv => whnf) | (refine idxB_at (by decide) rfl ?_; conv => whnf) | (refine atB_at (by decide) (by decide) ?_; conv => whnf) | (refine getB_lit _ rfl ?_; conv => whnf) | (refine cnd tab_ok mix ?_; conv => whnf) | trivial))
  · have hst : s = t := by omega
    subst hst
    have hcut := cut_ok hA hB (K := K) (s := s) (by omega) (by omega) (by omega) (fun x y _ _ e1 e2 => h4 x y (by omega) e1 e2) (fun x y _ _ e1 e2 => h5 x y (by omega) e1 e2)
    obtain ⟨kA1, kA2⟩ := keys_sub kA s
    obtain ⟨kB1, kB2⟩ := keys_sub kB (K - s)
    obtain ⟨sA1, sA2⟩ := srt_sub hA s
    obtain ⟨sB1, sB2⟩ := srt_sub hB (K - s)
    have lA1 : (A.take s).length = s := by rw [List.length_take]; omega
    have lA2 : (A.drop s).length = A.length - s := List.length_drop
    have lB1 : (B.take (K - s)).length = K - s := by rw [List.length_take]; omega
    have lB2 : (B.drop (K - s)).length = B.length - (K - s) := List.length_drop
    have eA : A = A.take s ++ A.drop s := (List.take_append_drop s A).symm
    have eB : B = B.take (K - s) ++ B.drop (K - s) := (List.take_append_drop (K - s) B).symm
    generalize A.take s = A1 at *
    generalize A.drop s = A2 at *
    generalize B.take (K - s) = B1 at *
    generalize B.drop (K - s) = B2 at *
    refine joinB tab_ok mix [0, 1, 2, 3, 4, 18, 20, 24] [0] (fun _ : Unit => [(185, V.bool (decide (a + s < m ∧ m < m + (K - s))))]) (fun _ => []) (fun _ => True) ?_ ?_
    · ((conv => whnf); (repeat first | (refine wrB (by omega) ?_; conv => whnf) | (refine okB (by kernel_rfl) ?_; conv => whnf) | (refine cb (by first | rfl | omega | (simp; done) | (simp; omega)) ?_; conv => whnf) | (refine idxB_at (by decide) rfl ?_; conv => whnf) | (refine atB_at (by decide) (by decide) ?_; conv => whnf) | (refine getB_lit _ rfl ?_; conv => whnf) | (refine cnd tab_ok mix ?_; conv => whnf) | trivial))
      refine br_dec (fun q1 => ?_) (fun q1 => ?_) <;> ((conv => whnf); (repeat first | (refine wrB (by omega) ?_; conv => whnf) | (refine okB (by kernel_rfl) ?_; conv => whnf) | (refine cb (by first | rfl | omega | (simp; done) | (simp; omega)) ?_; conv => whnf) | (refine idxB_at (by decide) rfl ?_; conv => whnf) | (refine atB_at (by decide) (by decide) ?_; conv => whnf) | (refine getB_lit _ rfl ?_; conv => whnf) | (refine cnd tab_ok mix ?_; conv => whnf) | trivial))
      · refine .mk [] () trivial ?_
        ((conv => whnf); (repeat first | (refine wrB (by omega) ?_; conv => whnf) | (refine okB (by kernel_rfl) ?_; conv => whnf) | (refine cb (by first | rfl | omega | (simp; done) | (simp; omega)) ?_; conv => whnf) | (refine idxB_at (by decide) rfl ?_; conv => whnf) | (refine atB_at (by decide) (by decide) ?_; conv => whnf) | (refine getB_lit _ rfl ?_; conv => whnf) | (refine cnd tab_ok mix ?_; conv => whnf) | trivial))
        all_goals exact cb (decide_eq_decide.2 (by omega)) (by ((conv => whnf); (repeat first | (refine wrB (by omega) ?_; conv => whnf) | (refine okB (by kernel_rfl) ?_; conv => whnf) | (refine cb (by first | rfl | omega | (simp; done) | (simp; omega)) ?_; conv => whnf) | (refine idxB_at (by decide) rfl ?_; conv => whnf) | (refine atB_at (by decide) (by decide) ?_; conv => whnf) | (refine getB_lit _ rfl ?_; conv => whnf) | (refine cnd tab_ok mix ?_; conv => whnf) | trivial)))
      · refine .mk [] () trivial ?_
        ((conv => whnf); (repeat first | (refine wrB (by omega) ?_; conv => whnf) | (refine okB (by kernel_rfl) ?_; conv => whnf) | (refine cb (by first | rfl | omega | (simp; done) | (simp; omega)) ?_; conv => whnf) | (refine idxB_at (by decide) rfl ?_; conv => whnf) | (refine atB_at (by decide) (by decide) ?_; conv => whnf) | (refine getB_lit _ rfl ?_; conv => whnf) | (refine cnd tab_ok mix ?_; conv => whnf) | trivial))
        all_goals exact cb (by simp; omega) (by ((conv => whnf); (repeat first | (refine wrB (by omega) ?_; conv => whnf) | (refine okB (by kernel_rfl) ?_; conv => whnf) | (refine cb (by first | rfl | omega | (simp; done) | (simp; omega)) ?_; conv => whnf) | (refine idxB_at (by decide) rfl ?_; conv => whnf) | (refine atB_at (by decide) (by decide) ?_; conv => whnf) | (refine getB_lit _ rfl ?_; conv => whnf) | (refine cnd tab_ok mix ?_; conv => whnf) | trivial)))
    rintro ⟨⟩ _
    ((conv => whnf); (repeat first | (refine wrB (by omega) ?_; conv => whnf) | (refine okB (by kernel_rfl) ?_; conv => whnf) | (refine cb (by first | rfl | omega | (simp; done) | (simp; omega)) ?_; conv => whnf) | (refine idxB_at (by decide) rfl ?_; conv => whnf) | (refine atB_at (by decide) (by decide) ?_; conv => whnf) | (refine getB_lit _ rfl ?_; conv => whnf) | trivial))
    refine joinB tab_ok mix [0, 1, 2, 3, 4, 18, 20, 24] [] (fun _ : Unit => []) (fun _ => [(0, .dat 6 (((pre ++ A1) ++ (B1 ++ (A2 ++ (B2 ++ post)))).map Ev.row))]) (fun _ => True) ?_ ?_
    · ((conv => whnf); (repeat first | (refine wrB (by omega) ?_; conv => whnf) | (refine okB (by kernel_rfl) ?_; conv => whnf) | (refine cb (by first | rfl | omega | (simp; done) | (simp; omega)) ?_; conv => whnf) | (refine idxB_at (by decide) rfl ?_; conv => whnf) | (refine atB_at (by decide) (by decide) ?_; conv => whnf) | (refine getB_lit _ rfl ?_; conv => whnf) | (refine cnd tab_ok mix ?_; conv => whnf) | trivial))
      refine br_dec (fun q1 => ?_) (fun q1 => ?_) <;> ((conv => whnf); (repeat first | (refine wrB (by omega) ?_; conv => whnf) | (refine okB (by kernel_rfl) ?_; conv => whnf) | (refine cb (by first | rfl | omega | (simp; done) | (simp; omega)) ?_; conv => whnf) | (refine idxB_at (by decide) rfl ?_; conv => whnf) | (refine atB_at (by decide) (by decide) ?_; conv => whnf) | (refine getB_lit _ rfl ?_; conv => whnf) | (refine cnd tab_ok mix ?_; conv => whnf) | trivial))
      · refine callL (rotate (pre ++ A1) A2 B1 (B2 ++ post) (a + s) m (m + (K - s)) (by simp; omega) (by omega) (by omega) (by omega) (by omega) len (by simp; omega) (by omega)) [some 0] [] rfl ?_
        ((conv => whnf); (repeat first | (refine wrB (by omega) ?_; conv => whnf) | (refine okB (by kernel_rfl) ?_; conv => whnf) | (refine cb (by first | rfl | omega | (simp; done) | (simp; omega)) ?_; conv => whnf) | (refine idxB_at (by decide) rfl ?_; conv => whnf) | (refine atB_at (by decide) (by decide) ?_; conv => whnf) | (refine getB_lit _ rfl ?_; conv => whnf) | (refine cnd tab_ok mix ?_; conv => whnf) | trivial))
        first | (refine cb (by rw [eA, eB]; simp) ?_; ((conv => whnf); (repeat first | (refine wrB (by omega) ?_; conv => whnf) | (refine okB (by kernel_rfl) ?_; conv => whnf) | (refine cb (by first | rfl | omega | (simp; done) | (simp; omega)) ?_; conv => whnf) | (refine idxB_at (by decide) rfl ?_; conv => whnf) | (refine atB_at (by decide) (by decide) ?_; conv => whnf) | (refine getB_lit _ rfl ?_; conv => whnf) | (refine cnd tab_ok mix ?_; conv => whnf) | trivial))) | skip
        refine .mk [] () trivial ?_
        ((conv => whnf); (repeat first | (refine wrB (by omega) ?_; conv => whnf) | (refine okB (by kernel_rfl) ?_; conv => whnf) | (refine cb (by first | rfl | omega | (simp; done) | (simp; omega)) ?_; conv => whnf) | (refine idxB_at (by decide) rfl ?_; conv => whnf) | (refine atB_at (by decide) (by decide) ?_; conv => whnf) | (refine getB_lit _ rfl ?_; conv => whnf) | (refine cnd tab_ok mix ?_; conv => whnf) | trivial))
      · refine .mk [] () trivial ?_
        ((conv => whnf); (repeat first | (refine wrB (by omega) ?_; conv => whnf) | (refine okB (by kernel_rfl) ?_; conv => whnf) | (refine cb (by first | rfl | omega | (simp; done) | (simp; omega)) ?_; conv => whnf) | (refine idxB_at (by decide) rfl ?_; conv => whnf) | (refine atB_at (by decide) (by decide) ?_; conv => whnf) | (refine getB_lit _ rfl ?_; conv => whnf) | (refine cnd tab_ok mix ?_; conv => whnf) | trivial))
        all_goals exact cb (congrArg (List.map Ev.row) (rows_swap (pre := pre) (post := post) eA eB (by omega))) (by ((conv => whnf); (repeat first | (refine wrB (by omega) ?_; conv => whnf) | (refine okB (by kernel_rfl) ?_; conv => whnf) | (refine cb (by first | rfl | omega | (simp; done) | (simp; omega)) ?_; conv => whnf) | (refine idxB_at (by decide) rfl ?_; conv => whnf) | (refine atB_at (by decide) (by decide) ?_; conv => whnf) | (refine getB_lit _ rfl ?_; conv => whnf) | (refine cnd tab_ok mix ?_; conv => whnf) | trivial)))
    rintro ⟨⟩ _
    ((conv => whnf); (repeat first | (refine wrB (by omega) ?_; conv => whnf) | (refine okB (by kernel_rfl) ?_; conv => whnf) | (refine cb (by first | rfl | omega | (simp; done) | (simp; omega)) ?_; conv => whnf) | (refine idxB_at (by decide) rfl ?_; conv => whnf) | (refine atB_at (by decide) (by decide) ?_; conv => whnf) | (refine getB_lit _ rfl ?_; conv => whnf) | trivial))
    refine joinB tab_ok mix [0, 1, 2, 3, 4, 18, 20, 24] [0] (fun _ : Unit => [(199, V.bool (decide (a < a + s ∧ a + s < a + K)))]) (fun _ => []) (fun _ => True) ?_ ?_
    · ((conv => whnf); (repeat first | (refine wrB (by omega) ?_; conv => whnf) | (refine okB (by kernel_rfl) ?_; conv => whnf) | (refine cb (by first | rfl | omega | (simp; done) | (simp; omega)) ?_; conv => whnf) | (refine idxB_at (by decide) rfl ?_; conv => whnf) | (refine atB_at (by decide) (by decide) ?_; conv => whnf) | (refine getB_lit _ rfl ?_; conv => whnf) | (refine cnd tab_ok mix ?_; conv => whnf) | trivial))
      refine br_dec (fun q1 => ?_) (fun q1 => ?_) <;> ((conv => whnf); (repeat first | (refine wrB (by omega) ?_; conv => whnf) | (refine okB (by kernel_rfl) ?_; conv => whnf) | (refine cb (by first | rfl | omega | (simp; done) | (simp; omega)) ?_; conv => whnf) | (refine idxB_at (by decide) rfl ?_; conv => whnf) | (refine atB_at (by decide) (by decide) ?_; conv => whnf) | (refine getB_lit _ rfl ?_; conv => whnf) | (refine cnd tab_ok mix ?_; conv => whnf) | trivial))
      · refine .mk [] () trivial ?_
        ((conv => whnf); (repeat first | (refine wrB (by omega) ?_; conv => whnf) | (refine okB (by kernel_rfl) ?_; conv => whnf) | (refine cb (by first | rfl | omega | (simp; done) | (simp; omega)) ?_; conv => whnf) | (refine idxB_at (by decide) rfl ?_; conv => whnf) | (refine atB_at (by decide) (by decide) ?_; conv => whnf) | (refine getB_lit _ rfl ?_; conv => whnf) | (refine cnd tab_ok mix ?_; conv => whnf) | trivial))
        all_goals exact cb (decide_eq_decide.2 (by omega)) (by ((conv => whnf); (repeat first | (refine wrB (by omega) ?_; conv => whnf) | (refine okB (by kernel_rfl) ?_; conv => whnf) | (refine cb (by first | rfl | omega | (simp; done) | (simp; omega)) ?_; conv => whnf) | (refine idxB_at (by decide) rfl ?_; conv => whnf) | (refine atB_at (by decide) (by decide) ?_; conv => whnf) | (refine getB_lit _ rfl ?_; conv => whnf) | (refine cnd tab_ok mix ?_; conv => whnf) | trivial)))
      · refine .mk [] () trivial ?_
        ((conv => whnf); (repeat first | (refine wrB (by omega) ?_; conv => whnf) | (refine okB (by kernel_rfl) ?_; conv => whnf) | (refine cb (by first | rfl | omega | (simp; done) | (simp; omega)) ?_; conv => whnf) | (refine idxB_at (by decide) rfl ?_; conv => whnf) | (refine atB_at (by decide) (by decide) ?_; conv => whnf) | (refine getB_lit _ rfl ?_; conv => whnf) | (refine cnd tab_ok mix ?_; conv => whnf) | trivial))
        all_goals exact cb (by simp; omega) (by ((conv => whnf); (repeat first | (refine wrB (by omega) ?_; conv => whnf) | (refine okB (by kernel_rfl) ?_; conv => whnf) | (refine cb (by first | rfl | omega | (simp; done) | (simp; omega)) ?_; conv => whnf) | (refine idxB_at (by decide) rfl ?_; conv => whnf) | (refine atB_at (by decide) (by decide) ?_; conv => whnf) | (refine getB_lit _ rfl ?_; conv => whnf) | (refine cnd tab_ok mix ?_; conv => whnf) | trivial)))
    rintro ⟨⟩ _
    ((conv => whnf); (repeat first | (refine wrB (by omega) ?_; conv => whnf) | (refine okB (by kernel_rfl) ?_; conv => whnf) | (refine cb (by first | rfl | omega | (simp; done) | (simp; omega)) ?_; conv => whnf) | (refine idxB_at (by decide) rfl ?_; conv => whnf) | (refine atB_at (by decide) (by decide) ?_; conv => whnf) | (refine getB_lit _ rfl ?_; conv => whnf) | trivial))
    refine joinB tab_ok mix [0, 1, 2, 3, 4, 18, 20, 24] [] (fun _ : Unit => []) (fun _ => [(0, .dat 6 ((pre ++ (mrg cmpEv A1 B1 ++ (A2 ++ (B2 ++ post)))).map Ev.row))]) (fun _ => True) ?_ ?_
    · ((conv => whnf); (repeat first | (refine wrB (by omega) ?_; conv => whnf) | (refine okB (by kernel_rfl) ?_; conv => whnf) | (refine cb (by first | rfl | omega | (simp; done) | (simp; omega)) ?_; conv => whnf) | (refine idxB_at (by decide) rfl ?_; conv => whnf) | (refine atB_at (by decide) (by decide) ?_; conv => whnf) | (refine getB_lit _ rfl ?_; conv => whnf) | (refine cnd tab_ok mix ?_; conv => whnf) | trivial))
      refine br_dec (fun q1 => ?_) (fun q1 => ?_) <;> ((conv => whnf); (repeat first | (refine wrB (by omega) ?_; conv => whnf) | (refine okB (by kernel_rfl) ?_; conv => whnf) | (refine cb (by first | rfl | omega | (simp; done) | (simp; omega)) ?_; conv => whnf) | (refine idxB_at (by decide) rfl ?_; conv => whnf) | (refine atB_at (by decide) (by decide) ?_; conv => whnf) | (refine getB_lit _ rfl ?_; conv => whnf) | (refine cnd tab_ok mix ?_; conv => whnf) | trivial))
      · refine callL (ih pre A1 B1 (A2 ++ (B2 ++ post)) (by omega) (by omega) (by omega) sA1 sB1 kA1 kB1 a (a + s) (a + K) len ha (by omega) (by omega) (by simp; omega) hl) [some 0] [] rfl ?_
        ((conv => whnf); (repeat first | (refine wrB (by omega) ?_; conv => whnf) | (refine okB (by kernel_rfl) ?_; conv => whnf) | (refine cb (by first | rfl | omega | (simp; done) | (simp; omega)) ?_; conv => whnf) | (refine idxB_at (by decide) rfl ?_; conv => whnf) | (refine atB_at (by decide) (by decide) ?_; conv => whnf) | (refine getB_lit _ rfl ?_; conv => whnf) | (refine cnd tab_ok mix ?_; conv => whnf) | trivial))
        refine .mk [] () trivial ?_
        ((conv => whnf); (repeat first | (refine wrB (by omega) ?_; conv => whnf) | (refine okB (by kernel_rfl) ?_; conv => whnf) | (refine cb (by first | rfl | omega | (simp; done) | (simp; omega)) ?_; conv => whnf) | (refine idxB_at (by decide) rfl ?_; conv => whnf) | (refine atB_at (by decide) (by decide) ?_; conv => whnf) | (refine getB_lit _ rfl ?_; conv => whnf) | (refine cnd tab_ok mix ?_; conv => whnf) | trivial))
      · have hL : mrg cmpEv A1 B1 = A1 ++ B1 := mrg_empty (by omega)
        refine .mk [] () trivial ?_
        ((conv => whnf); (repeat first | (refine wrB (by omega) ?_; conv => whnf) | (refine okB (by kernel_rfl) ?_; conv => whnf) | (refine cb (by first | rfl | omega | (simp; done) | (simp; omega)) ?_; conv => whnf) | (refine idxB_at (by decide) rfl ?_; conv => whnf) | (refine atB_at (by decide) (by decide) ?_; conv => whnf) | (refine getB_lit _ rfl ?_; conv => whnf) | (refine cnd tab_ok mix ?_; conv => whnf) | trivial))
        all_goals exact cb (by rw [hL]; simp) (by ((conv => whnf); (repeat first | (refine wrB (by omega) ?_; conv => whnf) | (refine okB (by kernel_rfl) ?_; conv => whnf) | (refine cb (by first | rfl | omega | (simp; done) | (simp; omega)) ?_; conv => whnf) | (refine idxB_at (by decide) rfl ?_; conv => whnf) | (refine atB_at (by decide) (by decide) ?_; conv => whnf) | (refine getB_lit _ rfl ?_; conv => whnf) | (refine cnd tab_ok mix ?_; conv => whnf) | trivial)))
    rintro ⟨⟩ _
    ((conv => whnf); (repeat first | (refine wrB (by omega) ?_; conv => whnf) | (refine okB (by kernel_rfl) ?_; conv => whnf) | (refine cb (by first | rfl | omega | (simp; done) | (simp; omega)) ?_; conv => whnf) | (refine idxB_at (by decide) rfl ?_; conv => whnf) | (refine atB_at (by decide) (by decide) ?_; conv => whnf) | (refine getB_lit _ rfl ?_; conv => whnf) | trivial))
    refine joinB tab_ok mix [0, 1, 2, 3, 4, 18, 20, 24] [0] (fun _ : Unit => [(213, V.bool (decide (a + K < m + (K - s) ∧ m + (K - s) < b)))]) (fun _ => []) (fun _ => True) ?_ ?_
    · ((conv => whnf); (repeat first | (refine wrB (by omega) ?_; conv => whnf) | (refine okB (by kernel_rfl) ?_; conv => whnf) | (refine cb (by first | rfl | omega | (simp; done) | (simp; omega)) ?_; conv => whnf) | (refine idxB_at (by decide) rfl ?_; conv => whnf) | (refine atB_at (by decide) (by decide) ?_; conv => whnf) | (refine getB_lit _ rfl ?_; conv => whnf) | (refine cnd tab_ok mix ?_; conv => whnf) | trivial))
      refine br_dec (fun q1 => ?_) (fun q1 => ?_) <;> ((conv => whnf); (repeat first | (refine wrB (by omega) ?_; conv => whnf) | (refine okB (by kernel_rfl) ?_; conv => whnf) | (refine cb (by first | rfl | omega | (simp; done) | (simp; omega)) ?_; conv => whnf) | (refine idxB_at (by decide) rfl ?_; conv => whnf) | (refine atB_at (by decide) (by decide) ?_; conv => whnf) | (refine getB_lit _ rfl ?_; conv => whnf) | (refine cnd tab_ok mix ?_; conv => whnf) | trivial))
      · refine .mk [] () trivial ?_
        ((conv => whnf); (repeat first | (refine wrB (by omega) ?_; conv => whnf) | (refine okB (by kernel_rfl) ?_; conv => whnf) | (refine cb (by first | rfl | omega | (simp; done) | (simp; omega)) ?_; conv => whnf) | (refine idxB_at (by decide) rfl ?_; conv => whnf) | (refine atB_at (by decide) (by decide) ?_; conv => whnf) | (refine getB_lit _ rfl ?_; conv => whnf) | (refine cnd tab_ok mix ?_; conv => whnf) | trivial))
        all_goals exact cb (decide_eq_decide.2 (by omega)) (by ((conv => whnf); (repeat first | (refine wrB (by omega) ?_; conv => whnf) | (refine okB (by kernel_rfl) ?_; conv => whnf) | (refine cb (by first | rfl | omega | (simp; done) | (simp; omega)) ?_; conv => whnf) | (refine idxB_at (by decide) rfl ?_; conv => whnf) | (refine atB_at (by decide) (by decide) ?_; conv => whnf) | (refine getB_lit _ rfl ?_; conv => whnf) | (refine cnd tab_ok mix ?_; conv => whnf) | trivial)))
      · refine .mk [] () trivial ?_
        ((conv => whnf); (repeat first | (refine wrB (by omega) ?_; conv => whnf) | (refine okB (by kernel_rfl) ?_; conv => whnf) | (refine cb (by first | rfl | omega | (simp; done) | (simp; omega)) ?_; conv => whnf) | (refine idxB_at (by decide) rfl ?_; conv => whnf) | (refine atB_at (by decide) (by decide) ?_; conv => whnf) | (refine getB_lit _ rfl ?_; conv => whnf) | (refine cnd tab_ok mix ?_; conv => whnf) | trivial))
        all_goals exact cb (by simp; omega) (by ((conv => whnf); (repeat first | (refine wrB (by omega) ?_; conv => whnf) | (refine okB (by kernel_rfl) ?_; conv => whnf) | (refine cb (by first | rfl | omega | (simp; done) | (simp; omega)) ?_; conv => whnf) | (refine idxB_at (by decide) rfl ?_; conv => whnf) | (refine atB_at (by decide) (by decide) ?_; conv => whnf) | (refine getB_lit _ rfl ?_; conv => whnf) | (refine cnd tab_ok mix ?_; conv => whnf) | trivial)))
    rintro ⟨⟩ _
    ((conv => whnf); (repeat first | (refine wrB (by omega) ?_; conv => whnf) | (refine okB (by kernel_rfl) ?_; conv => whnf) | (refine cb (by first | rfl | omega | (simp; done) | (simp; omega)) ?_; conv => whnf) | (refine idxB_at (by decide) rfl ?_; conv => whnf) | (refine atB_at (by decide) (by decide) ?_; conv => whnf) | (refine getB_lit _ rfl ?_; conv => whnf) | (refine cnd tab_ok mix ?_; conv => whnf) | trivial))
    refine br_dec (fun q1 => ?_) (fun q1 => ?_) <;> ((conv => whnf); (repeat first | (refine wrB (by omega) ?_; conv => whnf) | (refine okB (by kernel_rfl) ?_; conv => whnf) | (refine cb (by first | rfl | omega | (simp; done) | (simp; omega)) ?_; conv => whnf) | (refine idxB_at (by decide) rfl ?_; conv => whnf) | (refine atB_at (by decide) (by decide) ?_; conv => whnf) | (refine getB_lit _ rfl ?_; conv => whnf) | (refine cnd tab_ok mix ?_; conv => whnf) | trivial))
    · refine callL (ih (pre ++ mrg cmpEv A1 B1) A2 B2 post (by omega) (by omega) (by omega) sA2 sB2 kA2 kB2 (a + K) (m + (K - s)) b len (by simp [mrg_len]; omega) (by omega) (by omega) (by simp [mrg_len]; omega) hl) [some 0] [] rfl ?_
      ((conv => whnf); (repeat first | (refine wrB (by omega) ?_; conv => whnf) | (refine okB (by kernel_rfl) ?_; conv => whnf) | (refine cb (by first | rfl | omega | (simp; done) | (simp; omega)) ?_; conv => whnf) | (refine idxB_at (by decide) rfl ?_; conv => whnf) | (refine atB_at (by decide) (by decide) ?_; conv => whnf) | (refine getB_lit _ rfl ?_; conv => whnf) | (refine cnd tab_ok mix ?_; conv => whnf) | trivial))
      refine .mk [] ?_
      ((conv => whnf); (repeat first | (refine wrB (by omega) ?_; conv => whnf) | (refine okB (by kernel_rfl) ?_; conv => whnf) | (refine cb (by first | rfl | omega | (simp; done) | (simp; omega)) ?_; conv => whnf) | (refine idxB_at (by decide) rfl ?_; conv => whnf) | (refine atB_at (by decide) (by decide) ?_; conv => whnf) | (refine getB_lit _ rfl ?_; conv => whnf) | (refine cnd tab_ok mix ?_; conv => whnf) | trivial))
      exact cb (by rw [hcut]; simp) trivial
    · have hR : mrg cmpEv A2 B2 = A2 ++ B2 := mrg_empty (by omega)
      refine .mk [] ?_
      ((conv => whnf); (repeat first | (refine wrB (by omega) ?_; conv => whnf) | (refine okB (by kernel_rfl) ?_; conv => whnf) | (refine cb (by first | rfl | omega | (simp; done) | (simp; omega)) ?_; conv => whnf) | (refine idxB_at (by decide) rfl ?_; conv => whnf) | (refine atB_at (by decide) (by decide) ?_; conv => whnf) | (refine getB_lit _ rfl ?_; conv => whnf) | (refine cnd tab_ok mix ?_; conv => whnf) | trivial))
      exact cb (by rw [hcut, hR]; simp) trivial
end Go.Proofs.Ytepepidjefpckaa.Abs
