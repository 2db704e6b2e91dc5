/- The stable sort of slices, over events: blocks sorted by insertion, then merged. -/
import Derived.Test.YtepepidjefpckaaE11
namespace Go.Proofs.Ytepepidjefpckaa.Abs
open Go.Proofs
set_option maxRecDepth 10000
set_option linter.unusedSimpArgs false
set_option linter.unusedVariables false

/-! ### insertion sort is the stable sort -/
theorem getD_of {R : List Ev} {i : Nat} {x : Ev} (h : R[i]? = some x) : R.getD i default = x := by simp [List.getD_eq_getElem?_getD, h]
theorem sink_at {a : Nat} {pre : List Ev} (ha : a = pre.length) (y : Ev) : ∀ (n : Nat) (A : List Ev), A.length = n → Srt cmpEv A → ∀ Q, sink a (a + n) (pre ++ (A ++ (y :: Q))) = pre ++ (mrg cmpEv A [y] ++ Q)
  | 0, A, hA, _, Q => by
    have e := List.eq_nil_of_length_eq_zero hA
    subst e
    have : ∀ R, sink a (a + 0) R = R := by
      intro R
      cases a with
      | zero => rfl
      | succ j => rw [Nat.add_zero, sink, if_neg (fun h => by omega)]
    rw [this]
    simp [mrg]
  | n + 1, A, hA, hs, Q => by
    obtain ⟨A', w, rfl⟩ : ∃ A' w, A = A' ++ [w] := ⟨A.dropLast, A.getLast (by intro e; rw [e] at hA; simp at hA), (List.dropLast_concat_getLast _).symm⟩
    have hA' : A'.length = n := by simpa using hA
    have gy : (pre ++ ((A' ++ [w]) ++ (y :: Q)))[a + n + 1]? = some y := by
      have e0 : a + n + 1 - (pre ++ (A' ++ [w])).length = 0 := by simp; omega
      rw [← List.append_assoc pre, List.getElem?_append_right (by simp; omega), e0]; rfl
    have gw : (pre ++ ((A' ++ [w]) ++ (y :: Q)))[a + n]? = some w := by
      rw [List.append_assoc A', List.getElem?_append_right (by omega), List.getElem?_append_right (by omega)]
      simp [← ha, hA']
    have hs' := List.pairwise_append.1 hs
    rw [← Nat.add_assoc, sink, getD_of gy, getD_of gw]
    by_cases hc : cmpEv y w < 0
    · rw [if_pos ⟨by omega, hc⟩]
      have e : swapEv (pre ++ ((A' ++ [w]) ++ (y :: Q))) (a + n) = pre ++ (A' ++ (y :: (w :: Q))) := by
        rw [swapEv, getD_of gy, getD_of gw]
        have hl : (pre ++ A').length = a + n := by simp; omega
        have e1 : pre ++ ((A' ++ [w]) ++ (y :: Q)) = (pre ++ A') ++ (w :: y :: Q) := by simp
        rw [e1, List.set_append_right _ _ (by omega), hl, show a + n + 1 - (a + n) = 1 by omega, List.set_append_right _ _ (by omega), hl, show a + n - (a + n) = 0 by omega]
        simp
      rw [e, sink_at ha y n A' hA' hs'.1 (w :: Q)]
      have e2 := mrg_split (c := cmpEv) A' [y] [w] [] (fun y' hy x hx => by simp at hy hx; subst hy; subst hx; exact hc) (by simp)
      rw [List.append_nil, mrg_nil] at e2
      rw [e2]; simp
    · rw [if_neg (fun h => hc h.2)]
      have e2 : mrg cmpEv (A' ++ [w]) [y] = (A' ++ [w]) ++ [y] := by
        have := mrg_last (c := cmpEv) (A := A' ++ [w]) (y := y) (A' ++ [w]).length (fun x hx => ?_) (by simp)
        · rw [List.take_length, List.drop_length] at this; exact this
        · rw [List.take_length] at hx
          rcases List.mem_append.1 hx with hx | hx
          · exact cmpEvC.le_trans (hs'.2.2 x hx w (by simp)) hc
          · simp at hx; subst hx; exact hc
      rw [e2]; simp
theorem insFrom_at {a : Nat} {pre : List Ev} (ha : a = pre.length) : ∀ (Y A Q : List Ev), Srt cmpEv A → insFrom a Y.length (a + A.length) (pre ++ (A ++ (Y ++ Q))) = pre ++ (Y.foldl (fun A x => mrg cmpEv A [x]) A ++ Q)
  | [], A, Q, _ => by simp [insFrom]
  | y :: Y, A, Q, hA => by
    rw [List.length_cons, insFrom, List.cons_append, sink_at ha y A.length A rfl hA]
    have := insFrom_at ha Y (mrg cmpEv A [y]) Q (mrg_srt cmpEvC _ _ hA (srt_one y))
    rw [mrg_len, List.length_singleton] at this
    rw [show a + A.length + 1 = a + (A.length + 1) by omega, this]
    rfl
theorem insFrom_sort {a b : Nat} {pre X Q : List Ev} (ha : a = pre.length) (hb : b = a + X.length) : insFrom a (b - (a + 1)) (a + 1) (pre ++ (X ++ Q)) = pre ++ (ssort cmpEv X ++ Q) := by
  cases X with
  | nil => rw [show b - (a + 1) = 0 by rw [hb]; simp]; simp [insFrom, ssort]
  | cons x X =>
    have := insFrom_at ha X [x] Q (srt_one x)
    rw [show b - (a + 1) = X.length by rw [hb, List.length_cons]; omega]
    exact this
theorem insertionAt (pre X Q : List Ev) (a b len : Nat) (ha : a = pre.length) (hb : b = a + X.length) (hlen : len = pre.length + X.length + Q.length) (hl : len < 4611686018427387904) (hk : keysOk (pre ++ (X ++ Q))) :
    LSpec Try.prog 58 [.ac 0 6 len, V.int a, V.int b, cmpF] [(0, .dat 6 ((pre ++ (X ++ Q)).map Ev.row))] 1 (.tup []) [(0, .dat 6 ((pre ++ (ssort cmpEv X ++ Q)).map Ev.row))] 1 := by
  have e : len = (pre ++ (X ++ Q)).length := by simp; omega
  have := insertionSort (pre ++ (X ++ Q)) a b (by omega) (by rw [← e]; omega) (by omega) hk
  rw [insFrom_sort ha hb, ← e] at this
  exact this
theorem isort_sort (R : List Ev) : isort R = ssort cmpEv R := by
  have := insFrom_sort (a := 0) (b := R.length) (pre := []) (X := R) (Q := []) rfl (by simp)
  simpa [isort] using this

/-! ### the whole sort -/
theorem keys_of_ties {D R : List Ev} (hk : keysOk R) (h : ∀ z, ties cmpEv z D = ties cmpEv z R) : keysOk D := fun x hx => hk x (ties_mem cmpEv_refl h hx)
theorem ties_mid {z : Ev} {A B B' C : List Ev} (h : ties cmpEv z B' = ties cmpEv z B) : ties cmpEv z (A ++ (B' ++ C)) = ties cmpEv z (A ++ (B ++ C)) := by
  rw [ties_append, ties_append, ties_append, ties_append, h]
set_option maxHeartbeats 1000000 in
theorem stableC (R : List Ev) (hl : R.length < 1152921504606846976) (hk : keysOk R) :
    LSpec Try.prog 57 [.ac 0 6 R.length, V.int R.length, cmpF] [(0, .dat 6 (R.map Ev.row))] 1 (.tup []) [(0, .dat 6 ((ssort cmpEv R).map Ev.row))] 1 := by
  refine lspec tab_ok mix Try.func57 (by kernel_rfl) (by rfl) (by rfl) (by rfl) (by rfl) ?_
  ((conv => whnf); (repeat first | (refine wrB (by omega) ?_; conv => whnf) | (refine okB (by kernel_rfl) ?_; conv => whnf) | (refine cb (by first | rfl | omega | (simp; done) | (simp; omega)) ?_; conv => whnf) | (refine idxB_at (by decide) rfl ?_; conv => whnf) | (refine atB_at (by decide) (by decide) ?_; conv => whnf) | (refine getB_lit _ rfl ?_; conv => whnf) | (refine cnd tab_ok mix ?_; conv => whnf) | trivial))
  refine loopB2 tab_ok mix [0, 1, 2, 6] [] (fun (Ls : List (List Ev)) (rest : List Ev) => [(7, V.int (Ls.flatten.length : Nat)), (8, V.int (Ls.flatten.length + 20 : Nat))]) (fun Ls rest => [(0, .dat 6 ((Ls.flatten ++ rest).map Ev.row))])
    (fun Ls rest => (∀ l ∈ Ls, l.length = 20 ∧ Srt cmpEv l) ∧ Ls.flatten.length + rest.length = R.length ∧ ∀ z, ties cmpEv z (Ls.flatten ++ rest) = ties cmpEv z R) (fun Ls rest => rest.length) [] [] R rfl ⟨by simp, by simp, by simp⟩ (by ((conv => whnf); (repeat first | (refine wrB (by omega) ?_; conv => whnf) | (refine okB (by kernel_rfl) ?_; conv => whnf) | (refine cb (by first | rfl | omega | (simp; done) | (simp; omega)) ?_; conv => whnf) | (refine idxB_at (by decide) rfl ?_; conv => whnf) | (refine atB_at (by decide) (by decide) ?_; conv => whnf) | (refine getB_lit _ rfl ?_; conv => whnf) | (refine cnd tab_ok mix ?_; conv => whnf) | trivial))) ?_
  rintro Ls rest ⟨h1, h2, h3⟩
  ((conv => whnf); (repeat first | (refine wrB (by omega) ?_; conv => whnf) | (refine okB (by kernel_rfl) ?_; conv => whnf) | (refine cb (by first | rfl | omega | (simp; done) | (simp; omega)) ?_; conv => whnf) | (refine idxB_at (by decide) rfl ?_; conv => whnf) | (refine atB_at (by decide) (by decide) ?_; conv => whnf) | (refine getB_lit _ rfl ?_; conv => whnf) | (refine cnd tab_ok mix ?_; conv => whnf) | trivial))
  refine br_dec (fun g => ?_) (fun g => ?_) <;> ((conv => whnf); (repeat first | (refine wrB (by omega) ?_; conv => whnf) | (refine okB (by kernel_rfl) ?_; conv => whnf) | (refine cb (by first | rfl | omega | (simp; done) | (simp; omega)) ?_; conv => whnf) | (refine idxB_at (by decide) rfl ?_; conv => whnf) | (refine atB_at (by decide) (by decide) ?_; conv => whnf) | (refine getB_lit _ rfl ?_; conv => whnf) | (refine cnd tab_ok mix ?_; conv => whnf) | trivial))
  · obtain ⟨X, Q, rfl, hX⟩ := split_at rest 20 (by omega)
    rw [List.length_append] at h2
    refine callL (insertionAt Ls.flatten X Q Ls.flatten.length (Ls.flatten.length + 20) R.length rfl (by omega) (by omega) (by omega) (keys_of_ties hk h3)) [some 0] [] rfl ?_
    ((conv => whnf); (repeat first | (refine wrB (by omega) ?_; conv => whnf) | (refine okB (by kernel_rfl) ?_; conv => whnf) | (refine cb (by first | rfl | omega | (simp; done) | (simp; omega)) ?_; conv => whnf) | (refine idxB_at (by decide) rfl ?_; conv => whnf) | (refine atB_at (by decide) (by decide) ?_; conv => whnf) | (refine getB_lit _ rfl ?_; conv => whnf) | (refine cnd tab_ok mix ?_; conv => whnf) | trivial))
    have hf : (Ls ++ [ssort cmpEv X]).flatten = Ls.flatten ++ ssort cmpEv X := by simp
    have hfl : (Ls ++ [ssort cmpEv X]).flatten.length = Ls.flatten.length + 20 := by rw [hf, List.length_append, ssort_len cmpEvC, hX]
    refine .mk [] (Ls ++ [ssort cmpEv X]) Q ⟨fun l hm => ?_, by rw [hfl]; omega, fun z => ?_⟩ (by dsimp only; rw [List.length_append]; omega) ?_
    · rcases List.mem_append.1 hm with hm | hm
      · exact h1 l hm
      · simp at hm; subst hm; exact ⟨(ssort_len cmpEvC X).trans hX, ssort_srt cmpEvC X⟩
    · rw [hf, ← h3 z, List.append_assoc]; exact ties_mid (ssort_ties cmpEvC X z)
    · ((conv => whnf); (repeat first | (refine wrB (by omega) ?_; conv => whnf) | (refine okB (by kernel_rfl) ?_; conv => whnf) | (refine cb (by first | rfl | omega | (simp; done) | (simp; omega)) ?_; conv => whnf) | (refine idxB_at (by decide) rfl ?_; conv => whnf) | (refine atB_at (by decide) (by decide) ?_; conv => whnf) | (refine getB_lit _ rfl ?_; conv => whnf) | (refine cnd tab_ok mix ?_; conv => whnf) | trivial))
      all_goals exact cb (by first | (rw [hfl]; done) | (rw [hfl]; simp [-List.length_flatten]; omega) | (rw [hf]; simp)) (by ((conv => whnf); (repeat first | (refine wrB (by omega) ?_; conv => whnf) | (refine okB (by kernel_rfl) ?_; conv => whnf) | (refine cb (by first | rfl | omega | (simp; done) | (simp; omega)) ?_; conv => whnf) | (refine idxB_at (by decide) rfl ?_; conv => whnf) | (refine atB_at (by decide) (by decide) ?_; conv => whnf) | (refine getB_lit _ rfl ?_; conv => whnf) | (refine cnd tab_ok mix ?_; conv => whnf) | trivial)))
  · refine callL (insertionAt Ls.flatten rest [] Ls.flatten.length R.length R.length rfl (by omega) (by simp [-List.length_flatten]; omega) (by omega) (keys_of_ties hk (fun z => by rw [List.append_nil]; exact h3 z))) [some 0] [] rfl ?_
    ((conv => whnf); (repeat first | (refine wrB (by omega) ?_; conv => whnf) | (refine okB (by kernel_rfl) ?_; conv => whnf) | (refine cb (by first | rfl | omega | (simp; done) | (simp; omega)) ?_; conv => whnf) | (refine idxB_at (by decide) rfl ?_; conv => whnf) | (refine atB_at (by decide) (by decide) ?_; conv => whnf) | (refine getB_lit _ rfl ?_; conv => whnf) | (refine cnd tab_ok mix ?_; conv => whnf) | trivial))
    have hlast : (ssort cmpEv rest).length = rest.length := ssort_len cmpEvC rest
    refine loopB3 tab_ok mix [0, 1, 2] [] (fun (w : Nat) (Ls : List (List Ev)) (last : List Ev) => [(6, V.int w)]) (fun w Ls last => [(0, .dat 6 ((Ls.flatten ++ last).map Ev.row))])
      (fun w Ls last => 20 ≤ w ∧ (∀ l ∈ Ls, l.length = w ∧ Srt cmpEv l) ∧ last.length < w ∧ Srt cmpEv last ∧ Ls.flatten.length + last.length = R.length ∧ ∀ z, ties cmpEv z (Ls.flatten ++ last) = ties cmpEv z R) (fun w Ls last => R.length + 1 - w) [] 20 Ls (ssort cmpEv rest) rfl
      ⟨by omega, h1, by omega, ssort_srt cmpEvC rest, by omega, fun z => by rw [← h3 z, ties_append, ties_append, ssort_ties cmpEvC rest z]⟩ (by ((conv => whnf); (repeat first | (refine wrB (by omega) ?_; conv => whnf) | (refine okB (by kernel_rfl) ?_; conv => whnf) | (refine cb (by first | rfl | omega | (simp; done) | (simp; omega)) ?_; conv => whnf) | (refine idxB_at (by decide) rfl ?_; conv => whnf) | (refine atB_at (by decide) (by decide) ?_; conv => whnf) | (refine getB_lit _ rfl ?_; conv => whnf) | (refine cnd tab_ok mix ?_; conv => whnf) | trivial))) ?_
    clear h1 h2 h3 hlast g
    rintro w Ls last ⟨h0, h1, h2, h3, h4, h5⟩
    ((conv => whnf); (repeat first | (refine wrB (by omega) ?_; conv => whnf) | (refine okB (by kernel_rfl) ?_; conv => whnf) | (refine cb (by first | rfl | omega | (simp; done) | (simp; omega)) ?_; conv => whnf) | (refine idxB_at (by decide) rfl ?_; conv => whnf) | (refine atB_at (by decide) (by decide) ?_; conv => whnf) | (refine getB_lit _ rfl ?_; conv => whnf) | (refine cnd tab_ok mix ?_; conv => whnf) | trivial))
    refine br_dec (fun g => ?_) (fun g => ?_) <;> ((conv => whnf); (repeat first | (refine wrB (by omega) ?_; conv => whnf) | (refine okB (by kernel_rfl) ?_; conv => whnf) | (refine cb (by first | rfl | omega | (simp; done) | (simp; omega)) ?_; conv => whnf) | (refine idxB_at (by decide) rfl ?_; conv => whnf) | (refine atB_at (by decide) (by decide) ?_; conv => whnf) | (refine getB_lit _ rfl ?_; conv => whnf) | (refine cnd tab_ok mix ?_; conv => whnf) | trivial))
    · refine loopB2 tab_ok mix [0, 1, 2, 6] [] (fun (Ms Ks : List (List Ev)) => [(7, V.int (Ms.flatten.length : Nat)), (8, V.int (Ms.flatten.length + 2 * w : Nat))]) (fun Ms Ks => [(0, .dat 6 ((Ms.flatten ++ (Ks.flatten ++ last)).map Ev.row))])
        (fun Ms Ks => (∀ l ∈ Ms, l.length = 2 * w ∧ Srt cmpEv l) ∧ (∀ l ∈ Ks, l.length = w ∧ Srt cmpEv l) ∧ Ms.flatten.length + (Ks.flatten.length + last.length) = R.length ∧ ∀ z, ties cmpEv z (Ms.flatten ++ (Ks.flatten ++ last)) = ties cmpEv z R) (fun Ms Ks => Ks.length) [] [] Ls rfl
        ⟨by simp, h1, by simp [-List.length_flatten]; omega, by simpa using h5⟩ (by ((conv => whnf); (repeat first | (refine wrB (by omega) ?_; conv => whnf) | (refine okB (by kernel_rfl) ?_; conv => whnf) | (refine cb (by first | rfl | omega | (simp; done) | (simp; omega)) ?_; conv => whnf) | (refine idxB_at (by decide) rfl ?_; conv => whnf) | (refine atB_at (by decide) (by decide) ?_; conv => whnf) | (refine getB_lit _ rfl ?_; conv => whnf) | (refine cnd tab_ok mix ?_; conv => whnf) | trivial))) ?_
      rintro Ms Ks ⟨k1, k2, k3, k4⟩
      ((conv => whnf); (repeat first | (refine wrB (by omega) ?_; conv => whnf) | (refine okB (by kernel_rfl) ?_; conv => whnf) | (refine cb (by first | rfl | omega | (simp; done) | (simp; omega)) ?_; conv => whnf) | (refine idxB_at (by decide) rfl ?_; conv => whnf) | (refine atB_at (by decide) (by decide) ?_; conv => whnf) | (refine getB_lit _ rfl ?_; conv => whnf) | (refine cnd tab_ok mix ?_; conv => whnf) | trivial))
      refine br_dec (fun g1 => ?_) (fun g1 => ?_) <;> ((conv => whnf); (repeat first | (refine wrB (by omega) ?_; conv => whnf) | (refine okB (by kernel_rfl) ?_; conv => whnf) | (refine cb (by first | rfl | omega | (simp; done) | (simp; omega)) ?_; conv => whnf) | (refine idxB_at (by decide) rfl ?_; conv => whnf) | (refine atB_at (by decide) (by decide) ?_; conv => whnf) | (refine getB_lit _ rfl ?_; conv => whnf) | (refine cnd tab_ok mix ?_; conv => whnf) | trivial))
      · match Ks, k2, k3, k4 with
        | [], _, k3, _ => exfalso; simp [-List.length_flatten] at k3; omega
        | [A], k2, k3, _ => exfalso; have := (k2 A (by simp)).1; simp [-List.length_flatten] at k3; omega
        | A :: B :: Ks, k2, k3, k4 =>
          obtain ⟨hA, sA⟩ := k2 A (by simp)
          obtain ⟨hB, sB⟩ := k2 B (by simp)
          have e1 : (A :: B :: Ks).flatten = A ++ (B ++ Ks.flatten) := by simp
          rw [e1, List.length_append, List.length_append] at k3
          rw [e1] at k4
          have hkk := keys_of_ties hk k4
          refine callL (symMerge (A.length + B.length) Ms.flatten A B (Ks.flatten ++ last) (Nat.le_refl _) (by omega) (by omega) sA sB (fun x hx => hkk x (by simp [hx])) (fun x hx => hkk x (by simp [hx])) Ms.flatten.length (Ms.flatten.length + w) (Ms.flatten.length + 2 * w) R.length rfl (by omega) (by omega) (by simp [-List.length_flatten]; omega) (by omega)) [some 0] [] rfl ?_
          ((conv => whnf); (repeat first | (refine wrB (by omega) ?_; conv => whnf) | (refine okB (by kernel_rfl) ?_; conv => whnf) | (refine cb (by first | rfl | omega | (simp; done) | (simp; omega)) ?_; conv => whnf) | (refine idxB_at (by decide) rfl ?_; conv => whnf) | (refine atB_at (by decide) (by decide) ?_; conv => whnf) | (refine getB_lit _ rfl ?_; conv => whnf) | (refine cnd tab_ok mix ?_; conv => whnf) | trivial))
          have hf : (Ms ++ [mrg cmpEv A B]).flatten = Ms.flatten ++ mrg cmpEv A B := by simp
          have hfl : (Ms ++ [mrg cmpEv A B]).flatten.length = Ms.flatten.length + 2 * w := by rw [hf, List.length_append, mrg_len]; omega
          refine .mk [] (Ms ++ [mrg cmpEv A B]) Ks ⟨fun l hm => ?_, fun l hm => k2 l (by simp [hm]), by rw [hfl]; omega, fun z => ?_⟩ (by dsimp only; simp only [List.length_cons]; omega) ?_
          · rcases List.mem_append.1 hm with hm | hm
            · exact k1 l hm
            · simp at hm; subst hm; exact ⟨by rw [mrg_len]; omega, mrg_srt cmpEvC A B sA sB⟩
          · rw [hf, ← k4 z, List.append_assoc]
            have := ties_mid (z := z) (A := Ms.flatten) (B := A ++ B) (B' := mrg cmpEv A B) (C := Ks.flatten ++ last) (by rw [mrg_ties cmpEvC z A B sA sB, ties_append])
            simpa using this
          · ((conv => whnf); (repeat first | (refine wrB (by omega) ?_; conv => whnf) | (refine okB (by kernel_rfl) ?_; conv => whnf) | (refine cb (by first | rfl | omega | (simp; done) | (simp; omega)) ?_; conv => whnf) | (refine idxB_at (by decide) rfl ?_; conv => whnf) | (refine atB_at (by decide) (by decide) ?_; conv => whnf) | (refine getB_lit _ rfl ?_; conv => whnf) | (refine cnd tab_ok mix ?_; conv => whnf) | trivial))
            all_goals exact cb (by first | (rw [hfl]; done) | (rw [hfl]; simp [-List.length_flatten]; omega) | (rw [hf]; simp)) (by ((conv => whnf); (repeat first | (refine wrB (by omega) ?_; conv => whnf) | (refine okB (by kernel_rfl) ?_; conv => whnf) | (refine cb (by first | rfl | omega | (simp; done) | (simp; omega)) ?_; conv => whnf) | (refine idxB_at (by decide) rfl ?_; conv => whnf) | (refine atB_at (by decide) (by decide) ?_; conv => whnf) | (refine getB_lit _ rfl ?_; conv => whnf) | (refine cnd tab_ok mix ?_; conv => whnf) | trivial)))
      · match Ks, k2, k3, k4 with
        | [], _, k3, k4 =>
          simp only [List.flatten_nil, List.length_nil, List.nil_append] at k3 k4
          refine br_no (by simp [-List.length_flatten]; omega) ?_
          ((conv => whnf); (repeat first | (refine wrB (by omega) ?_; conv => whnf) | (refine okB (by kernel_rfl) ?_; conv => whnf) | (refine cb (by first | rfl | omega | (simp; done) | (simp; omega)) ?_; conv => whnf) | (refine idxB_at (by decide) rfl ?_; conv => whnf) | (refine atB_at (by decide) (by decide) ?_; conv => whnf) | (refine getB_lit _ rfl ?_; conv => whnf) | (refine cnd tab_ok mix ?_; conv => whnf) | trivial))
          refine .mk [] (2 * w) Ms last ⟨by omega, k1, by omega, h3, by omega, k4⟩ (by dsimp only; omega) ?_
          ((conv => whnf); (repeat first | (refine wrB (by omega) ?_; conv => whnf) | (refine okB (by kernel_rfl) ?_; conv => whnf) | (refine cb (by first | rfl | omega | (simp; done) | (simp; omega)) ?_; conv => whnf) | (refine idxB_at (by decide) rfl ?_; conv => whnf) | (refine atB_at (by decide) (by decide) ?_; conv => whnf) | (refine getB_lit _ rfl ?_; conv => whnf) | (refine cnd tab_ok mix ?_; conv => whnf) | trivial))
        | [A], k2, k3, k4 =>
          obtain ⟨hA, sA⟩ := k2 A (by simp)
          simp only [List.flatten_cons, List.flatten_nil, List.append_nil] at k3 k4
          by_cases hz : last.length = 0
          · have hz := List.eq_nil_of_length_eq_zero hz
            subst hz
            refine br_no (by simp [-List.length_flatten] at k3 ⊢; omega) ?_
            ((conv => whnf); (repeat first | (refine wrB (by omega) ?_; conv => whnf) | (refine okB (by kernel_rfl) ?_; conv => whnf) | (refine cb (by first | rfl | omega | (simp; done) | (simp; omega)) ?_; conv => whnf) | (refine idxB_at (by decide) rfl ?_; conv => whnf) | (refine atB_at (by decide) (by decide) ?_; conv => whnf) | (refine getB_lit _ rfl ?_; conv => whnf) | (refine cnd tab_ok mix ?_; conv => whnf) | trivial))
            refine .mk [] (2 * w) Ms A ⟨by omega, k1, by omega, sA, by simpa [-List.length_flatten] using k3, by simpa using k4⟩ (by dsimp only; omega) ?_
            ((conv => whnf); (repeat first | (refine wrB (by omega) ?_; conv => whnf) | (refine okB (by kernel_rfl) ?_; conv => whnf) | (refine cb (by first | rfl | omega | (simp; done) | (simp; omega)) ?_; conv => whnf) | (refine idxB_at (by decide) rfl ?_; conv => whnf) | (refine atB_at (by decide) (by decide) ?_; conv => whnf) | (refine getB_lit _ rfl ?_; conv => whnf) | (refine cnd tab_ok mix ?_; conv => whnf) | trivial))
          · refine br_yes (by simp [-List.length_flatten]; omega) ?_
            ((conv => whnf); (repeat first | (refine wrB (by omega) ?_; conv => whnf) | (refine okB (by kernel_rfl) ?_; conv => whnf) | (refine cb (by first | rfl | omega | (simp; done) | (simp; omega)) ?_; conv => whnf) | (refine idxB_at (by decide) rfl ?_; conv => whnf) | (refine atB_at (by decide) (by decide) ?_; conv => whnf) | (refine getB_lit _ rfl ?_; conv => whnf) | (refine cnd tab_ok mix ?_; conv => whnf) | trivial))
            have hkk := keys_of_ties hk k4
            refine callL (symMerge (A.length + last.length) Ms.flatten A last [] (Nat.le_refl _) (by omega) (by omega) sA h3 (fun x hx => hkk x (by simp [hx])) (fun x hx => hkk x (by simp [hx])) Ms.flatten.length (Ms.flatten.length + w) R.length R.length rfl (by omega) (by omega) (by simp [-List.length_flatten]; omega) (by omega)) [some 0] [] rfl ?_
            ((conv => whnf); (repeat first | (refine wrB (by omega) ?_; conv => whnf) | (refine okB (by kernel_rfl) ?_; conv => whnf) | (refine cb (by first | rfl | omega | (simp; done) | (simp; omega)) ?_; conv => whnf) | (refine idxB_at (by decide) rfl ?_; conv => whnf) | (refine atB_at (by decide) (by decide) ?_; conv => whnf) | (refine getB_lit _ rfl ?_; conv => whnf) | (refine cnd tab_ok mix ?_; conv => whnf) | trivial))
            refine .mk [] (2 * w) Ms (mrg cmpEv A last) ⟨by omega, k1, by rw [mrg_len]; omega, mrg_srt cmpEvC A last sA h3, by rw [mrg_len]; omega, fun z => ?_⟩ (by dsimp only; omega) ?_
            · rw [← k4 z, ties_append, ties_append, ties_append, mrg_ties cmpEvC z A last sA h3]
            · ((conv => whnf); (repeat first | (refine wrB (by omega) ?_; conv => whnf) | (refine okB (by kernel_rfl) ?_; conv => whnf) | (refine cb (by first | rfl | omega | (simp; done) | (simp; omega)) ?_; conv => whnf) | (refine idxB_at (by decide) rfl ?_; conv => whnf) | (refine atB_at (by decide) (by decide) ?_; conv => whnf) | (refine getB_lit _ rfl ?_; conv => whnf) | (refine cnd tab_ok mix ?_; conv => whnf) | trivial))
        | A :: B :: Ks, k2, k3, _ =>
          exfalso
          have hA := (k2 A (by simp)).1
          have hB := (k2 B (by simp)).1
          simp [-List.length_flatten] at k3
          omega
    · have hD : Ls.flatten ++ last = ssort cmpEv R := by
        refine ssort_unique cmpEvC cmpEv_refl ?_ h5
        match Ls, h1, h4 with
        | [], _, _ => simpa using h3
        | A :: Ls, h1, h4 =>
          obtain ⟨hA, sA⟩ := h1 A (by simp)
          simp only [List.flatten_cons, List.length_append] at h4
          have e1 := List.eq_nil_of_length_eq_zero (show last.length = 0 by omega)
          have e2 := List.eq_nil_of_length_eq_zero (show Ls.flatten.length = 0 by omega)
          simp only [List.flatten_cons, e1, e2, List.append_nil]
          exact sA
      refine .mk [] ?_
      ((conv => whnf); (repeat first | (refine wrB (by omega) ?_; conv => whnf) | (refine okB (by kernel_rfl) ?_; conv => whnf) | (refine cb (by first | rfl | omega | (simp; done) | (simp; omega)) ?_; conv => whnf) | (refine idxB_at (by decide) rfl ?_; conv => whnf) | (refine atB_at (by decide) (by decide) ?_; conv => whnf) | (refine getB_lit _ rfl ?_; conv => whnf) | (refine cnd tab_ok mix ?_; conv => whnf) | trivial))
      exact cb (by rw [hD]) trivial
theorem sortStableC (R : List Ev) (hl : R.length < 1152921504606846976) (hk : keysOk R) :
    LSpec Try.prog 54 [.ac 0 6 R.length, cmpF] [(0, .dat 6 (R.map Ev.row))] 1 (.tup []) [(0, .dat 6 ((ssort cmpEv R).map Ev.row))] 1 := by
  refine lspec tab_ok mix Try.func54 (by kernel_rfl) (by rfl) (by rfl) (by rfl) (by rfl) ?_
  ((conv => whnf); (repeat first | (refine wrB (by omega) ?_; conv => whnf) | (refine okB (by kernel_rfl) ?_; conv => whnf) | (refine cb (by first | rfl | omega | (simp; done) | (simp; omega)) ?_; conv => whnf) | (refine idxB_at (by decide) rfl ?_; conv => whnf) | (refine atB_at (by decide) (by decide) ?_; conv => whnf) | (refine getB_lit _ rfl ?_; conv => whnf) | (refine cnd tab_ok mix ?_; conv => whnf) | trivial))
  refine callL (stableC R hl hk) [some 0] [] rfl ?_
  ((conv => whnf); (repeat first | (refine wrB (by omega) ?_; conv => whnf) | (refine okB (by kernel_rfl) ?_; conv => whnf) | (refine cb (by first | rfl | omega | (simp; done) | (simp; omega)) ?_; conv => whnf) | (refine idxB_at (by decide) rfl ?_; conv => whnf) | (refine atB_at (by decide) (by decide) ?_; conv => whnf) | (refine getB_lit _ rfl ?_; conv => whnf) | (refine cnd tab_ok mix ?_; conv => whnf) | trivial))
  refine .mk [] ?_
  ((conv => whnf); (repeat first | (refine wrB (by omega) ?_; conv => whnf) | (refine okB (by kernel_rfl) ?_; conv => whnf) | (refine cb (by first | rfl | omega | (simp; done) | (simp; omega)) ?_; conv => whnf) | (refine idxB_at (by decide) rfl ?_; conv => whnf) | (refine atB_at (by decide) (by decide) ?_; conv => whnf) | (refine getB_lit _ rfl ?_; conv => whnf) | (refine cnd tab_ok mix ?_; conv => whnf) | trivial))
theorem sortEventsC (R : List Ev) (hl : R.length < 2147483648) (hk : keysOk R) :
    LSpec Try.prog 42 [evsV R] [] 0 (.ac 0 6 R.length) [(0, .dat 6 ((ssort cmpEv R).map Ev.row))] 1 := by
  refine lspec tab_ok mix Try.func42 (by kernel_rfl) (by rfl) (by rfl) (by rfl) (by rfl) ?_
  ((conv => whnf); (repeat first | (refine wrB (by omega) ?_; conv => whnf) | (refine okB (by kernel_rfl) ?_; conv => whnf) | (refine cb (by first | rfl | omega | (simp; done) | (simp; omega)) ?_; conv => whnf) | (refine idxB_at (by decide) rfl ?_; conv => whnf) | (refine atB_at (by decide) (by decide) ?_; conv => whnf) | (refine getB_lit _ rfl ?_; conv => whnf) | (refine cnd tab_ok mix ?_; conv => whnf) | trivial))
  refine callL (cloneEvs R (by omega)) [] [] rfl ?_
  ((conv => whnf); (repeat first | (refine wrB (by omega) ?_; conv => whnf) | (refine okB (by kernel_rfl) ?_; conv => whnf) | (refine cb (by first | rfl | omega | (simp; done) | (simp; omega)) ?_; conv => whnf) | (refine idxB_at (by decide) rfl ?_; conv => whnf) | (refine atB_at (by decide) (by decide) ?_; conv => whnf) | (refine getB_lit _ rfl ?_; conv => whnf) | (refine cnd tab_ok mix ?_; conv => whnf) | trivial))
  refine callL (sortStableC R (by omega) hk) [some 192] [] rfl ?_
  ((conv => whnf); (repeat first | (refine wrB (by omega) ?_; conv => whnf) | (refine okB (by kernel_rfl) ?_; conv => whnf) | (refine cb (by first | rfl | omega | (simp; done) | (simp; omega)) ?_; conv => whnf) | (refine idxB_at (by decide) rfl ?_; conv => whnf) | (refine atB_at (by decide) (by decide) ?_; conv => whnf) | (refine getB_lit _ rfl ?_; conv => whnf) | (refine cnd tab_ok mix ?_; conv => whnf) | trivial))
  refine .mk [(0, 192)] ?_
  ((conv => whnf); (repeat first | (refine wrB (by omega) ?_; conv => whnf) | (refine okB (by kernel_rfl) ?_; conv => whnf) | (refine cb (by first | rfl | omega | (simp; done) | (simp; omega)) ?_; conv => whnf) | (refine idxB_at (by decide) rfl ?_; conv => whnf) | (refine atB_at (by decide) (by decide) ?_; conv => whnf) | (refine getB_lit _ rfl ?_; conv => whnf) | (refine cnd tab_ok mix ?_; conv => whnf) | trivial))
end Go.Proofs.Ytepepidjefpckaa.Abs
