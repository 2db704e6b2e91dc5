/- The stable sort of slices, over events: swapping ranges, rotating. -/
import Derived.Test.YtepepidjefpckaaE7
namespace Go.Proofs.Ytepepidjefpckaa.Abs
open Go.Proofs
set_option maxRecDepth 10000
set_option linter.unusedSimpArgs false
set_option linter.unusedVariables false

theorem get_mid {α : Type} {pre X post : List α} {n i : Nat} {x : α} (hn : n = pre.length) (h : X[i]? = some x) : (pre ++ (X ++ post))[n + i]? = some x := by
  subst hn
  rw [List.getElem?_append_right (by omega), show pre.length + i - pre.length = i by omega, List.getElem?_append_left (List.getElem?_eq_some_iff.1 h).1]
  exact h
theorem set_mid {α : Type} {pre X post : List α} {n i : Nat} {x : α} (hn : n = pre.length) (h : i < X.length) : (pre ++ (X ++ post)).set (n + i) x = pre ++ (X.set i x ++ post) := by
  subst hn
  rw [List.set_append_right _ _ (by omega), show pre.length + i - pre.length = i by omega, List.set_append_left _ _ h]

/-- the first i of X are those of Y -/
def zipAt {α : Type} (i : Nat) (X Y : List α) : List α := Y.take i ++ X.drop i
theorem zipAt_len {α : Type} {i : Nat} {X Y : List α} (h : X.length = Y.length) (hi : i ≤ X.length) : (zipAt i X Y).length = X.length := by
  simp [zipAt]; omega
theorem zipAt_get {α : Type} {i : Nat} {X Y : List α} (h : X.length = Y.length) (hi : i < X.length) : (zipAt i X Y)[i]? = X[i]? := by
  unfold zipAt
  rw [List.getElem?_append_right (by simp; omega), List.getElem?_drop]
  congr 1
  simp; omega
theorem zipAt_set {α : Type} {i : Nat} {X Y : List α} {y : α} (h : X.length = Y.length) (hy : Y[i]? = some y) : (zipAt i X Y).set i y = zipAt (i + 1) X Y := by
  have hi := (List.getElem?_eq_some_iff.1 hy).1
  obtain ⟨x, hx⟩ : ∃ x, X[i]? = some x := ⟨X[i]'(by omega), by simp⟩
  unfold zipAt
  rw [drop_get hx, List.take_add_one, hy, List.set_append_right _ _ (by rw [List.length_take]; omega), show i - (Y.take i).length = 0 by rw [List.length_take]; omega]
  simp
theorem zipAt_zero {α : Type} (X Y : List α) : zipAt 0 X Y = X := by simp [zipAt]
theorem zipAt_all {α : Type} {X Y : List α} (h : X.length = Y.length) : zipAt X.length X Y = Y := by
  unfold zipAt
  rw [h, List.take_length, ← h, List.drop_length, List.append_nil]
theorem swap_rows {R : List Ev} {i j : Nat} {x y : Ev} : ((R.map Ev.row).set i x.row).set j y.row = ((R.set i x).set j y).map Ev.row := by rw [List.map_set, List.map_set]

theorem swapRange (pre X mid Y post : List Ev) (n a b : Nat) (ha : a = pre.length) (hb : b = a + X.length + mid.length) (hX : X.length = n) (hY : Y.length = n) (len : Nat) (hlen : len = (pre ++ (X ++ (mid ++ (Y ++ post)))).length) (hl : len < 9223372036854775807) :
    LSpec Try.prog 61 [.ac 0 6 len, V.int a, V.int b, V.int n, cmpF] [(0, .dat 6 ((pre ++ (X ++ (mid ++ (Y ++ post)))).map Ev.row))] 1 (.tup []) [(0, .dat 6 ((pre ++ (Y ++ (mid ++ (X ++ post)))).map Ev.row))] 1 := by
  have hxy : X.length = Y.length := by omega
  have hlen2 : len = a + n + mid.length + n + post.length := by rw [hlen]; simp; omega
  refine lspec tab_ok mix Try.func61 (by kernel_rfl) (by rfl) (by rfl) (by rfl) (by rfl) ?_
  ((conv => whnf); (repeat first | (refine wrB (by omega) ?_; conv => whnf) | (refine okB (by kernel_rfl) ?_; conv => whnf) | (refine cb (by first | rfl | omega | (simp; done) | (simp; omega)) ?_; conv => whnf) | (refine idxB_at (by decide) rfl ?_; conv => whnf) | (refine atB_at (by decide) (by decide) ?_; conv => whnf) | (refine getB_lit _ rfl ?_; conv => whnf) | (refine cnd tab_ok mix ?_; conv => whnf) | trivial))
  refine loopB tab_ok mix [0, 1, 2, 3] [] (fun i : Nat => [(10, V.int i)]) (fun i => [(0, .dat 6 ((pre ++ (zipAt i X Y ++ (mid ++ (zipAt i Y X ++ post)))).map Ev.row))]) (fun i => i ≤ n) (fun i => n - i) [] 0 rfl (by omega) (by ((conv => whnf); (repeat first | (refine wrB (by omega) ?_; conv => whnf) | (refine okB (by kernel_rfl) ?_; conv => whnf) | (refine cb (by first | rfl | omega | (simp; done) | (simp; omega)) ?_; conv => whnf) | (refine idxB_at (by decide) rfl ?_; conv => whnf) | (refine atB_at (by decide) (by decide) ?_; conv => whnf) | (refine getB_lit _ rfl ?_; conv => whnf) | (refine cnd tab_ok mix ?_; conv => whnf) | trivial))) ?_
  rintro i h1
  ((conv => whnf); (repeat first | (refine wrB (by omega) ?_; conv => whnf) | (refine okB (by kernel_rfl) ?_; conv => whnf) | (refine cb (by first | rfl | omega | (simp; done) | (simp; omega)) ?_; conv => whnf) | (refine idxB_at (by decide) rfl ?_; conv => whnf) | (refine atB_at (by decide) (by decide) ?_; conv => whnf) | (refine getB_lit _ rfl ?_; conv => whnf) | (refine cnd tab_ok mix ?_; conv => whnf) | trivial))
  refine br_dec (fun h => ?_) (fun h => ?_) <;> ((conv => whnf); (repeat first | (refine wrB (by omega) ?_; conv => whnf) | (refine okB (by kernel_rfl) ?_; conv => whnf) | (refine cb (by first | rfl | omega | (simp; done) | (simp; omega)) ?_; conv => whnf) | (refine idxB_at (by decide) rfl ?_; conv => whnf) | (refine atB_at (by decide) (by decide) ?_; conv => whnf) | (refine getB_lit _ rfl ?_; conv => whnf) | (refine cnd tab_ok mix ?_; conv => whnf) | trivial))
  · obtain ⟨x, hx⟩ : ∃ x, X[i]? = some x := ⟨X[i]'(by omega), by simp⟩
    obtain ⟨y, hy⟩ : ∃ y, Y[i]? = some y := ⟨Y[i]'(by omega), by simp⟩
    have gx : (pre ++ (zipAt i X Y ++ (mid ++ (zipAt i Y X ++ post))))[a + i]? = some x := get_mid ha (by rw [zipAt_get hxy (by omega)]; exact hx)
    have e2 : pre ++ (zipAt i X Y ++ (mid ++ (zipAt i Y X ++ post))) = (pre ++ zipAt i X Y ++ mid) ++ (zipAt i Y X ++ post) := by simp
    have hb2 : b = (pre ++ zipAt i X Y ++ mid).length := by simp [zipAt_len hxy (by omega : i ≤ X.length)]; omega
    have gy : (pre ++ (zipAt i X Y ++ (mid ++ (zipAt i Y X ++ post))))[b + i]? = some y := by
      rw [e2]; exact get_mid hb2 (by rw [zipAt_get hxy.symm (by omega)]; exact hy)
    refine atB_eq (b + i) (by omega) (by omega) ?_
    ((conv => whnf); (repeat first | (refine wrB (by omega) ?_; conv => whnf) | (refine okB (by kernel_rfl) ?_; conv => whnf) | (refine cb (by first | rfl | omega | (simp; done) | (simp; omega)) ?_; conv => whnf) | (refine idxB_at (by decide) rfl ?_; conv => whnf) | (refine atB_at (by decide) (by decide) ?_; conv => whnf) | (refine getB_lit _ rfl ?_; conv => whnf) | (refine cnd tab_ok mix ?_; conv => whnf) | trivial))
    refine getB gy ?_
    ((conv => whnf); (repeat first | (refine wrB (by omega) ?_; conv => whnf) | (refine okB (by kernel_rfl) ?_; conv => whnf) | (refine cb (by first | rfl | omega | (simp; done) | (simp; omega)) ?_; conv => whnf) | (refine idxB_at (by decide) rfl ?_; conv => whnf) | (refine atB_at (by decide) (by decide) ?_; conv => whnf) | (refine getB_lit _ rfl ?_; conv => whnf) | (refine cnd tab_ok mix ?_; conv => whnf) | trivial))
    refine atB_eq (a + i) (by omega) (by omega) ?_
    ((conv => whnf); (repeat first | (refine wrB (by omega) ?_; conv => whnf) | (refine okB (by kernel_rfl) ?_; conv => whnf) | (refine cb (by first | rfl | omega | (simp; done) | (simp; omega)) ?_; conv => whnf) | (refine idxB_at (by decide) rfl ?_; conv => whnf) | (refine atB_at (by decide) (by decide) ?_; conv => whnf) | (refine getB_lit _ rfl ?_; conv => whnf) | (refine cnd tab_ok mix ?_; conv => whnf) | trivial))
    refine getB gx ?_
    ((conv => whnf); (repeat first | (refine wrB (by omega) ?_; conv => whnf) | (refine okB (by kernel_rfl) ?_; conv => whnf) | (refine cb (by first | rfl | omega | (simp; done) | (simp; omega)) ?_; conv => whnf) | (refine idxB_at (by decide) rfl ?_; conv => whnf) | (refine atB_at (by decide) (by decide) ?_; conv => whnf) | (refine getB_lit _ rfl ?_; conv => whnf) | (refine cnd tab_ok mix ?_; conv => whnf) | trivial))
    refine atB_eq (a + i) (by omega) (by omega) ?_
    ((conv => whnf); (repeat first | (refine wrB (by omega) ?_; conv => whnf) | (refine okB (by kernel_rfl) ?_; conv => whnf) | (refine cb (by first | rfl | omega | (simp; done) | (simp; omega)) ?_; conv => whnf) | (refine idxB_at (by decide) rfl ?_; conv => whnf) | (refine atB_at (by decide) (by decide) ?_; conv => whnf) | (refine getB_lit _ rfl ?_; conv => whnf) | (refine cnd tab_ok mix ?_; conv => whnf) | trivial))
    refine getB gx ?_
    ((conv => whnf); (repeat first | (refine wrB (by omega) ?_; conv => whnf) | (refine okB (by kernel_rfl) ?_; conv => whnf) | (refine cb (by first | rfl | omega | (simp; done) | (simp; omega)) ?_; conv => whnf) | (refine idxB_at (by decide) rfl ?_; conv => whnf) | (refine atB_at (by decide) (by decide) ?_; conv => whnf) | (refine getB_lit _ rfl ?_; conv => whnf) | (refine cnd tab_ok mix ?_; conv => whnf) | trivial))
    refine atB_eq (b + i) (by omega) (by omega) ?_
    ((conv => whnf); (repeat first | (refine wrB (by omega) ?_; conv => whnf) | (refine okB (by kernel_rfl) ?_; conv => whnf) | (refine cb (by first | rfl | omega | (simp; done) | (simp; omega)) ?_; conv => whnf) | (refine idxB_at (by decide) rfl ?_; conv => whnf) | (refine atB_at (by decide) (by decide) ?_; conv => whnf) | (refine getB_lit _ rfl ?_; conv => whnf) | (refine cnd tab_ok mix ?_; conv => whnf) | trivial))
    refine getB_lit y.row (by rw [List.getElem?_set_ne (by omega), List.getElem?_map, gy]; rfl) ?_
    ((conv => whnf); (repeat first | (refine wrB (by omega) ?_; conv => whnf) | (refine okB (by kernel_rfl) ?_; conv => whnf) | (refine cb (by first | rfl | omega | (simp; done) | (simp; omega)) ?_; conv => whnf) | (refine idxB_at (by decide) rfl ?_; conv => whnf) | (refine atB_at (by decide) (by decide) ?_; conv => whnf) | (refine getB_lit _ rfl ?_; conv => whnf) | (refine cnd tab_ok mix ?_; conv => whnf) | trivial))
    refine .mk [] (i + 1) (by omega) (by omega) ?_
    ((conv => whnf); (repeat first | (refine wrB (by omega) ?_; conv => whnf) | (refine okB (by kernel_rfl) ?_; conv => whnf) | (refine cb (by first | rfl | omega | (simp; done) | (simp; omega)) ?_; conv => whnf) | (refine idxB_at (by decide) rfl ?_; conv => whnf) | (refine atB_at (by decide) (by decide) ?_; conv => whnf) | (refine getB_lit _ rfl ?_; conv => whnf) | (refine cnd tab_ok mix ?_; conv => whnf) | trivial))
    refine cb ?_ trivial
    refine (swap_rows (x := y) (y := x)).trans (congrArg (List.map Ev.row) ?_)
    rw [set_mid ha (by rw [zipAt_len hxy (by omega)]; omega), zipAt_set hxy hy]
    have e3 : pre ++ (zipAt (i + 1) X Y ++ (mid ++ (zipAt i Y X ++ post))) = (pre ++ zipAt (i + 1) X Y ++ mid) ++ (zipAt i Y X ++ post) := by simp
    have hb3 : b = (pre ++ zipAt (i + 1) X Y ++ mid).length := by simp [zipAt_len hxy (by omega : i + 1 ≤ X.length)]; omega
    rw [e3, set_mid hb3 (by rw [zipAt_len hxy.symm (by omega)]; omega), zipAt_set hxy.symm hx]
    simp
  · have : i = n := by omega
    subst this
    refine .mk [] ?_
    ((conv => whnf); (repeat first | (refine wrB (by omega) ?_; conv => whnf) | (refine okB (by kernel_rfl) ?_; conv => whnf) | (refine cb (by first | rfl | omega | (simp; done) | (simp; omega)) ?_; conv => whnf) | (refine idxB_at (by decide) rfl ?_; conv => whnf) | (refine atB_at (by decide) (by decide) ?_; conv => whnf) | (refine getB_lit _ rfl ?_; conv => whnf) | (refine cnd tab_ok mix ?_; conv => whnf) | trivial))
    refine cb ?_ trivial
    rw [← hX, zipAt_all hxy, hX, ← hY, zipAt_all hxy.symm]
theorem split_at {α : Type} (X : List α) (j : Nat) (h : j ≤ X.length) : ∃ X1 X2, X = X1 ++ X2 ∧ X1.length = j := ⟨X.take j, X.drop j, (List.take_append_drop j X).symm, by rw [List.length_take]; omega⟩
theorem rotate (P0 X0 Y0 Q0 : List Ev) (a m b : Nat) (ha : a = P0.length) (hm : m = a + X0.length) (hb : b = m + Y0.length) (hX0 : 0 < X0.length) (hY0 : 0 < Y0.length) (len : Nat) (hlen : len = P0.length + X0.length + Y0.length + Q0.length) (hl : len < 9223372036854775807) :
    LSpec Try.prog 60 [.ac 0 6 len, V.int a, V.int m, V.int b, cmpF] [(0, .dat 6 ((P0 ++ (X0 ++ (Y0 ++ Q0))).map Ev.row))] 1 (.tup []) [(0, .dat 6 ((P0 ++ (Y0 ++ (X0 ++ Q0))).map Ev.row))] 1 := by
  refine lspec tab_ok mix Try.func60 (by kernel_rfl) (by rfl) (by rfl) (by rfl) (by rfl) ?_
  ((conv => whnf); (repeat first | (refine wrB (by omega) ?_; conv => whnf) | (refine okB (by kernel_rfl) ?_; conv => whnf) | (refine cb (by first | rfl | omega | (simp; done) | (simp; omega)) ?_; conv => whnf) | (refine idxB_at (by decide) rfl ?_; conv => whnf) | (refine atB_at (by decide) (by decide) ?_; conv => whnf) | (refine getB_lit _ rfl ?_; conv => whnf) | (refine cnd tab_ok mix ?_; conv => whnf) | trivial))
  refine loopB4 tab_ok mix [0, 2, 4] [] (fun (P X Y Q : List Ev) => [(10, V.int X.length), (11, V.int Y.length)]) (fun P X Y Q => [(0, .dat 6 ((P ++ (X ++ (Y ++ Q))).map Ev.row))])
    (fun P X Y Q => P.length + X.length = m ∧ 0 < X.length ∧ 0 < Y.length ∧ P.length + X.length + Y.length + Q.length = len ∧ P ++ (Y ++ (X ++ Q)) = P0 ++ (Y0 ++ (X0 ++ Q0))) (fun P X Y Q => X.length + Y.length) [] P0 X0 Y0 Q0 rfl ⟨by omega, hX0, hY0, by omega, rfl⟩ (by ((conv => whnf); (repeat first | (refine wrB (by omega) ?_; conv => whnf) | (refine okB (by kernel_rfl) ?_; conv => whnf) | (refine cb (by first | rfl | omega | (simp; done) | (simp; omega)) ?_; conv => whnf) | (refine idxB_at (by decide) rfl ?_; conv => whnf) | (refine atB_at (by decide) (by decide) ?_; conv => whnf) | (refine getB_lit _ rfl ?_; conv => whnf) | (refine cnd tab_ok mix ?_; conv => whnf) | trivial))) ?_
  rintro P X Y Q ⟨h1, h2, h3, h4, h5⟩
  ((conv => whnf); (repeat first | (refine wrB (by omega) ?_; conv => whnf) | (refine okB (by kernel_rfl) ?_; conv => whnf) | (refine cb (by first | rfl | omega | (simp; done) | (simp; omega)) ?_; conv => whnf) | (refine idxB_at (by decide) rfl ?_; conv => whnf) | (refine atB_at (by decide) (by decide) ?_; conv => whnf) | (refine getB_lit _ rfl ?_; conv => whnf) | (refine cnd tab_ok mix ?_; conv => whnf) | trivial))
  refine br_ndec (fun h => ?_) (fun h => ?_) <;> ((conv => whnf); (repeat first | (refine wrB (by omega) ?_; conv => whnf) | (refine okB (by kernel_rfl) ?_; conv => whnf) | (refine cb (by first | rfl | omega | (simp; done) | (simp; omega)) ?_; conv => whnf) | (refine idxB_at (by decide) rfl ?_; conv => whnf) | (refine atB_at (by decide) (by decide) ?_; conv => whnf) | (refine getB_lit _ rfl ?_; conv => whnf) | (refine cnd tab_ok mix ?_; conv => whnf) | trivial))
  · refine br_dec (fun g => ?_) (fun g => ?_) <;> ((conv => whnf); (repeat first | (refine wrB (by omega) ?_; conv => whnf) | (refine okB (by kernel_rfl) ?_; conv => whnf) | (refine cb (by first | rfl | omega | (simp; done) | (simp; omega)) ?_; conv => whnf) | (refine idxB_at (by decide) rfl ?_; conv => whnf) | (refine atB_at (by decide) (by decide) ?_; conv => whnf) | (refine getB_lit _ rfl ?_; conv => whnf) | (refine cnd tab_ok mix ?_; conv => whnf) | trivial))
    · obtain ⟨X1, X2, rfl, hl1⟩ := split_at X Y.length (by omega)
      have hx := @List.length_append _ X1 X2
      refine callL (swapRange P X1 X2 Y Q X1.length P.length (P.length + X1.length + X2.length) rfl rfl rfl hl1.symm len (by simp; omega) hl) [some 0] [] rfl ?_
      ((conv => whnf); (repeat first | (refine wrB (by omega) ?_; conv => whnf) | (refine okB (by kernel_rfl) ?_; conv => whnf) | (refine cb (by first | rfl | omega | (simp; done) | (simp; omega)) ?_; conv => whnf) | (refine idxB_at (by decide) rfl ?_; conv => whnf) | (refine atB_at (by decide) (by decide) ?_; conv => whnf) | (refine getB_lit _ rfl ?_; conv => whnf) | (refine cnd tab_ok mix ?_; conv => whnf) | trivial))
      refine .mk [] (P ++ Y) X2 X1 Q ⟨by simp; omega, by omega, by omega, by simp; omega, ?_⟩ (by dsimp only; omega) ?_
      · rw [← h5]; simp
      · ((conv => whnf); (repeat first | (refine wrB (by omega) ?_; conv => whnf) | (refine okB (by kernel_rfl) ?_; conv => whnf) | (refine cb (by first | rfl | omega | (simp; done) | (simp; omega)) ?_; conv => whnf) | (refine idxB_at (by decide) rfl ?_; conv => whnf) | (refine atB_at (by decide) (by decide) ?_; conv => whnf) | (refine getB_lit _ rfl ?_; conv => whnf) | (refine cnd tab_ok mix ?_; conv => whnf) | trivial))
    · obtain ⟨Y1, Y2, rfl, hl1⟩ := split_at Y (Y.length - X.length) (by omega)
      have hy := @List.length_append _ Y1 Y2
      refine callL (swapRange P X Y1 Y2 Q X.length P.length (P.length + X.length + Y1.length) rfl rfl rfl (by omega) len (by simp; omega) hl) [some 0] [] rfl ?_
      ((conv => whnf); (repeat first | (refine wrB (by omega) ?_; conv => whnf) | (refine okB (by kernel_rfl) ?_; conv => whnf) | (refine cb (by first | rfl | omega | (simp; done) | (simp; omega)) ?_; conv => whnf) | (refine idxB_at (by decide) rfl ?_; conv => whnf) | (refine atB_at (by decide) (by decide) ?_; conv => whnf) | (refine getB_lit _ rfl ?_; conv => whnf) | (refine cnd tab_ok mix ?_; conv => whnf) | trivial))
      refine .mk [] P Y2 Y1 (X ++ Q) ⟨by omega, by omega, by omega, by simp; omega, ?_⟩ (by dsimp only; omega) ?_
      · rw [← h5]; simp
      · ((conv => whnf); (repeat first | (refine wrB (by omega) ?_; conv => whnf) | (refine okB (by kernel_rfl) ?_; conv => whnf) | (refine cb (by first | rfl | omega | (simp; done) | (simp; omega)) ?_; conv => whnf) | (refine idxB_at (by decide) rfl ?_; conv => whnf) | (refine atB_at (by decide) (by decide) ?_; conv => whnf) | (refine getB_lit _ rfl ?_; conv => whnf) | (refine cnd tab_ok mix ?_; conv => whnf) | trivial))
  · refine callL (swapRange P X [] Y Q X.length P.length (P.length + X.length) rfl (by simp) rfl (by omega) len (by simp; omega) hl) [some 0] [] rfl ?_
    ((conv => whnf); (repeat first | (refine wrB (by omega) ?_; conv => whnf) | (refine okB (by kernel_rfl) ?_; conv => whnf) | (refine cb (by first | rfl | omega | (simp; done) | (simp; omega)) ?_; conv => whnf) | (refine idxB_at (by decide) rfl ?_; conv => whnf) | (refine atB_at (by decide) (by decide) ?_; conv => whnf) | (refine getB_lit _ rfl ?_; conv => whnf) | (refine cnd tab_ok mix ?_; conv => whnf) | trivial))
    refine .mk [] ?_
    ((conv => whnf); (repeat first | (refine wrB (by omega) ?_; conv => whnf) | (refine okB (by kernel_rfl) ?_; conv => whnf) | (refine cb (by first | rfl | omega | (simp; done) | (simp; omega)) ?_; conv => whnf) | (refine idxB_at (by decide) rfl ?_; conv => whnf) | (refine atB_at (by decide) (by decide) ?_; conv => whnf) | (refine getB_lit _ rfl ?_; conv => whnf) | (refine cnd tab_ok mix ?_; conv => whnf) | trivial))
    refine cb ?_ trivial
    rw [← h5]; simp
end Go.Proofs.Ytepepidjefpckaa.Abs
