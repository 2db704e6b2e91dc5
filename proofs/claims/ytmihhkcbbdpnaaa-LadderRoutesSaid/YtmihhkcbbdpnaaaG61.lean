/- rung.Valid. -/
import Derived.Test.YtmihhkcbbdpnaaaG60
namespace Go.Proofs.Ytmihhkcbbdpnaaa.Abs
open Go.Proofs
set_option maxRecDepth 10000
set_option linter.unusedSimpArgs false
set_option linter.unusedVariables false
theorem itV_below (x : Nat × Item) : ∀ v ∈ itV x, v.Below fun _ => False := by
  intro v hv
  simp only [itV, List.mem_cons, List.not_mem_nil, or_false] at hv
  rcases hv with rfl | rfl
  · exact .c _
  · refine .agg _ fun y hy => ?_
    simp only [List.mem_cons, List.not_mem_nil, or_false] at hy
    rcases hy with rfl | rfl | rfl <;> exact .c _
theorem itV_rep (x : Nat × Item) (A : Nat → Prop) (ids : Nat → Nat × Nat) (w : World) (i : Nat) (v : V) (u : Value) (h1 : (itV x)[i]? = some v) (h2 : (itE x)[i]? = some u) : RepV A ids w v u := by
  match i with
  | 0 => cases h1; cases h2; exact .c _
  | 1 =>
    cases h1; cases h2
    refine .agg _ _ rfl fun j y z k1 k2 => ?_
    match j with
    | 0 => cases k1; cases k2; exact .c _
    | 1 => cases k1; cases k2; exact .c _
    | 2 => cases k1; cases k2; exact .c _
    | j + 3 => simp at k1
  | i + 2 => simp [itV] at h1
theorem itN_mem {bs : List (List Item)} : ∀ {n : Nat} {p : Nat × Item}, p ∈ itN bs n → p.1 < n ∧ ∃ l, bs[p.1]? = some l ∧ p.2 ∈ l
  | n + 1, p, h => by
    rw [itN] at h
    rcases List.mem_append.1 h with h | h
    · obtain ⟨h1, h2⟩ := itN_mem h
      exact ⟨by omega, h2⟩
    · obtain ⟨x, hx, rfl⟩ := List.mem_map.1 h
      refine ⟨by simp, ?_⟩
      rw [List.getD_eq_getElem?_getD] at hx
      cases hb : bs[n]? with
      | none => rw [hb] at hx; simp at hx
      | some l => rw [hb] at hx; exact ⟨l, rfl, hx⟩
theorem within1RC (a lo hi : Int) (h : lo ≤ a ∧ a ≤ hi) : PSpec Try.prog 134 [V.int a, V.int lo, V.int hi] (V.bool true) := by
  refine pspec tab_ok mix Try.func134 (by kernel_rfl) rfl rfl ?_
  ((conv => whnf); (repeat (first | ((first | refine z1 ?_ | refine z2 ?_ | refine z3 ?_ | refine idxB_at (by decide) rfl ?_ | refine atB_at (by decide) (by decide) ?_ | refine getB_lit _ rfl ?_ | refine z7 ?_); conv => whnf) | trivial)))
  refine br_dec (fun g => ?_) (fun g => absurd h.1 g)
  ((conv => whnf); (repeat (first | ((first | refine z1 ?_ | refine z2 ?_ | refine z3 ?_ | refine idxB_at (by decide) rfl ?_ | refine atB_at (by decide) (by decide) ?_ | refine getB_lit _ rfl ?_ | refine z7 ?_); conv => whnf) | trivial)))
  refine .same ?_
  rw [decide_eq_true h.2]
theorem Rng.Good.fits {r : Rng} {b : Int} {k : Nat} (h : r.Good b k) : r.Fits := ⟨⟨h.f.1, by have := h.f; omega⟩, ⟨h.w.1, by have := h.w; omega⟩, h.c⟩
theorem rValidC (r : Rng) {b : Int} {k : Nat} (h : r.Good b k) (hl : ∀ l ∈ r.bkts, l.length < 1000000) : PSpec Try.prog 98 [r.v] (V.bool true) := by
  refine pspec tab_ok mix Try.func98 (by kernel_rfl) rfl rfl ?_
  ((conv => whnf); (repeat (first | ((first | refine z1 ?_ | refine z2 ?_ | refine z3 ?_ | refine idxB_at (by decide) rfl ?_ | refine atB_at (by decide) (by decide) ?_ | refine getB_lit _ rfl ?_ | refine z7 ?_); conv => whnf) | trivial)))
  refine callB (within1RC _ _ _ h.f) ?_
  ((conv => whnf); (repeat (first | ((first | refine z1 ?_ | refine z2 ?_ | refine z3 ?_ | refine idxB_at (by decide) rfl ?_ | refine atB_at (by decide) (by decide) ?_ | refine getB_lit _ rfl ?_ | refine z7 ?_); conv => whnf) | trivial)))
  refine callB (within1RC _ _ _ h.w) ?_
  ((conv => whnf); (repeat (first | ((first | refine z1 ?_ | refine z2 ?_ | refine z3 ?_ | refine idxB_at (by decide) rfl ?_ | refine atB_at (by decide) (by decide) ?_ | refine getB_lit _ rfl ?_ | refine z7 ?_); conv => whnf) | trivial)))
  refine callB (within1RC _ _ _ h.c) ?_
  ((conv => whnf); (repeat (first | ((first | refine z1 ?_ | refine z2 ?_ | refine z3 ?_ | refine idxB_at (by decide) rfl ?_ | refine atB_at (by decide) (by decide) ?_ | refine getB_lit _ rfl ?_ | refine z7 ?_); conv => whnf) | trivial)))
  rw [show (!decide (((r.bkts.map bktRow).length : Int) = 8)) = false from by simp [h.len]]
  ((conv => whnf); (repeat (first | ((first | refine z1 ?_ | refine z2 ?_ | refine z3 ?_ | refine idxB_at (by decide) rfl ?_ | refine atB_at (by decide) (by decide) ?_ | refine getB_lit _ rfl ?_ | refine z7 ?_); conv => whnf) | trivial)))
  refine callL (itemsFC r) [] [] rfl ?_
  ((conv => whnf); (repeat (first | ((first | refine z1 ?_ | refine z2 ?_ | refine z3 ?_ | refine idxB_at (by decide) rfl ?_ | refine atB_at (by decide) (by decide) ?_ | refine getB_lit _ rfl ?_ | refine z7 ?_); conv => whnf) | trivial)))
  refine rangeB tab_ok mix (by omega) rfl (enters_of Try.func155 (by kernel_rfl) rfl) (by rfl) (by rfl) itE itV (itN r.bkts r.bkts.length) (fun _ => ⟨rfl, rfl⟩) itV_below itV_rep
    (fun F ids w lb hr hs hlb => itemsX r (by rw [h.len]; omega) hl rfl hr hs hlb) (fun _ => _) rfl ?_ ?_
  · rintro pre ⟨i, x⟩ hp
    obtain ⟨l, hi, hx⟩ := (itN_mem (hp.subset (List.mem_append_right _ (List.mem_singleton.2 rfl)))).2
    have hlt := (List.getElem?_eq_some_iff.1 hi).1
    rw [h.len] at hlt
    obtain ⟨e1, e2, e3, _⟩ := h.each i l x hi hx
    dsimp only at hlt
    ((conv => whnf); (repeat (first | ((first | refine z1 ?_ | refine z2 ?_ | refine z3 ?_ | refine idxB_at (by decide) rfl ?_ | refine atB_at (by decide) (by decide) ?_ | refine getB_lit _ rfl ?_ | refine z7 ?_); conv => whnf) | trivial)))
    rw [show decide ((i : Int) < r.cur) = false from decide_eq_false (by omega)]
    ((conv => whnf); (repeat (first | ((first | refine z1 ?_ | refine z2 ?_ | refine z3 ?_ | refine idxB_at (by decide) rfl ?_ | refine atB_at (by decide) (by decide) ?_ | refine getB_lit _ rfl ?_ | refine z7 ?_); conv => whnf) | trivial)))
    refine dcallB (startC r h.fits i (by omega)) ?_
    ((conv => whnf); (repeat (first | ((first | refine z1 ?_ | refine z2 ?_ | refine z3 ?_ | refine idxB_at (by decide) rfl ?_ | refine atB_at (by decide) (by decide) ?_ | refine getB_lit _ rfl ?_ | refine z7 ?_); conv => whnf) | trivial)))
    have hm := mul_small (i := (i : Int) + 1) (w := r.width) (by omega) h.fits.w
    have hf := h.f
    have hat : r.at ((i : Int) + 1) = r.from' + ((i : Int) + 1) * r.width := rfl
    refine dcallB (startC r h.fits ((i : Int) + 1) (by omega)) ?_
    ((conv => whnf); (repeat (first | ((first | refine z1 ?_ | refine z2 ?_ | refine z3 ?_ | refine idxB_at (by decide) rfl ?_ | refine atB_at (by decide) (by decide) ?_ | refine getB_lit _ rfl ?_ | refine z7 ?_); conv => whnf) | trivial)))
    refine dcallB (within1RC x.time (r.at i) (r.at ((i : Int) + 1) - 1) ⟨e2, by omega⟩) ?_
    ((conv => whnf); (repeat (first | ((first | refine z1 ?_ | refine z2 ?_ | refine z3 ?_ | refine idxB_at (by decide) rfl ?_ | refine atB_at (by decide) (by decide) ?_ | refine getB_lit _ rfl ?_ | refine z7 ?_); conv => whnf) | trivial)))
    refine .mk [] ?_
    ((conv => whnf); (repeat (first | ((first | refine z1 ?_ | refine z2 ?_ | refine z3 ?_ | refine idxB_at (by decide) rfl ?_ | refine atB_at (by decide) (by decide) ?_ | refine getB_lit _ rfl ?_ | refine z7 ?_); conv => whnf) | trivial)))
  · ((conv => whnf); (repeat (first | ((first | refine z1 ?_ | refine z2 ?_ | refine z3 ?_ | refine idxB_at (by decide) rfl ?_ | refine atB_at (by decide) (by decide) ?_ | refine getB_lit _ rfl ?_ | refine z7 ?_); conv => whnf) | trivial)))
    exact .same rfl
end Go.Proofs.Ytmihhkcbbdpnaaa.Abs
