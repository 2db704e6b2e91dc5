/- Ladders and sorted lists, with free numbers; the fixed examples of law08. -/
import Derived.Test.YtmihhkcbbdpnaaaG64
namespace Go.Proofs.Ytmihhkcbbdpnaaa.Abs
open Go.Proofs
set_option maxRecDepth 10000
set_option linter.unusedSimpArgs false
set_option linter.unusedVariables false
/-- l is the sorted list S; numbers lie below b; n insertions -/
structure InvL (l : Lad) (S : List Item) (b : Int) (n : Nat) : Prop where
  rel : Rel l S
  seqs : ∀ x ∈ S, 0 ≤ x.seq ∧ x.seq < b
  len : S.length ≤ n
  cost : l.moves + l.pot ≤ 6 * (n : Int)
  mlow : (n : Int) ≤ l.moves
  comp : (n : Int) ≤ l.compares ∧ l.compares ≤ 5 * (n : Int)
theorem InvL.sz {l : Lad} {S : List Item} {b : Int} {n : Nat} (h : InvL l S b n) (hn : n ≤ 10000) : l.Sz := by
  have h1 := h.rel.perm.length_eq
  have h2 := h.len
  have h3 := h.cost
  have h4 := h.comp
  exact ⟨by omega, by omega, by omega⟩
theorem InvL.uq {l : Lad} {S : List Item} {b : Int} {n : Nat} (h : InvL l S b n) {it : Item} (hs : b ≤ it.seq) : ∀ x ∈ S, Uq x it := fun x hx => by
  have := h.seqs x hx
  unfold Uq
  rw [Ne, cmpItem_zero]
  omega
theorem invL_zero : InvL ⟨0, [], [], [], 0, 0⟩ [] 0 0 := ⟨inv8_zero.rel, fun x hx => by simp at hx, by decide, by decide, by decide, by decide, by decide⟩
theorem InvL.mono {l : Lad} {S : List Item} {b c : Int} {n : Nat} (h : InvL l S b n) (hc : b ≤ c) : InvL l S c n := ⟨h.rel, fun x hx => by have := h.seqs x hx; omega, h.len, h.cost, h.mlow, h.comp⟩
theorem InvL.ins {l : Lad} {S : List Item} {b : Int} {n : Nat} (h : InvL l S b n) {it : Item} (ht : 0 ≤ it.time ∧ it.time ≤ 1152921504606846976) (h0 : 0 ≤ it.seq) (hs : b ≤ it.seq) : InvL (insLad l it) (insI S it) (it.seq + 1) (n + 1) := by
  obtain ⟨r1, r2, _⟩ := rel_ins h.rel ht (h.uq hs)
  have m1 := r2.moves
  have m2 := r2.pot
  have m3 := r2.comp
  have hcost := h.cost
  have hcomp := h.comp
  have hmlow := h.mlow
  have hlen := h.len
  refine ⟨r1, fun x hx => ?_, by have := (insI_perm S it).length_eq; rw [List.length_cons] at this; omega, by push_cast; omega, by push_cast; omega, by push_cast; omega⟩
  rcases insI_mem8.1 hx with rfl | hx
  · omega
  · have := h.seqs x hx; omega
theorem InvL.pop {l : Lad} {S : List Item} {b : Int} {n : Nat} (h : InvL l S b n) (hn : n ≤ 10000) : (S = [] ∧ popG l = (fillG l, ⟨0, 0, 0⟩, false) ∧ InvL (popG l).1 [] b n) ∨ ∃ x T, S = x :: T ∧ popG l = ((popG l).1, x, true) ∧ InvL (popG l).1 T b n := by
  have hs := h.sz hn
  have hcost := h.cost
  have hcomp := h.comp
  have hmlow := h.mlow
  have hlen := h.len
  obtain ⟨c1, c2, c3, c4⟩ := popG_cost h.rel.good hs
  rcases rel_pop h.rel hs with ⟨rfl, e1, _, e3⟩ | ⟨x, T, rfl, e1, _, _, e3⟩
  · exact .inl ⟨rfl, e1, e3, fun x hx => by simp at hx, by simp, by omega, by omega, by omega⟩
  · refine .inr ⟨x, T, rfl, ?_, e3, fun y hy => h.seqs y (List.mem_cons_of_mem _ hy), by rw [List.length_cons] at hlen; omega, by omega, by omega, by omega⟩
    rw [e1]
theorem InvL.asks {l : Lad} {S : List Item} {b : Int} {n : Nat} (h : InvL l S b n) (hn : n ≤ 10000) : Enough l.siz l ∧ (peekG l).1.bottom.length < 1000000 := pop_asks h.rel.good (h.sz hn)
theorem insertC8 {l : Lad} {S : List Item} {b : Int} {n : Nat} (h : InvL l S b n) (hn : n ≤ 10000) {it : Item} (ht : 0 ≤ it.time ∧ it.time ≤ 1152921504606846976) (hs : b ≤ it.seq) : PSpec Try.prog 49 [l.v, it.v] ((insLad l it).v) :=
  insertLadC l it (fits_of h.rel.good (h.sz hn)) (rel_ins h.rel ht (h.uq hs)).2.2
theorem popC8 {l : Lad} {S : List Item} {b : Int} {n : Nat} (h : InvL l S b n) (hn : n ≤ 10000) : PSpec Try.prog 52 [l.v] (.tup [(popG l).1.v, (popG l).2.1.v, V.bool (popG l).2.2]) :=
  popC l.siz l (h.asks hn).1 (h.asks hn).2
theorem InvL.small {l : Lad} {S : List Item} {b : Int} {n : Nat} (h : InvL l S b n) (hn : n ≤ 10000) : l.Small := by
  have h1 := h.rel.perm.length_eq
  have h2 := h.len
  have h3 := h.rel.good.depth
  refine ⟨by omega, by omega, fun r hr => ?_⟩
  obtain ⟨b', k', g1, _⟩ := chain_mem h.rel.good.chain r hr
  have := g1.len; omega
theorem lenC8 {l : Lad} {S : List Item} {b : Int} {n : Nat} (h : InvL l S b n) (hn : n ≤ 10000) : PSpec Try.prog 48 [l.v] (V.int S.length) := by
  rw [h.rel.perm.length_eq]; exact lenLadC l (h.small hn)
theorem validC8 {l : Lad} {S : List Item} {b : Int} {n : Nat} (h : InvL l S b n) (hn : n ≤ 10000) : PSpec Try.prog 53 [l.v] (V.bool true) := lValidC l h.rel.good (h.small hn)
theorem Inv8.toL {s : St8} {i : Nat} {S : List Item} (h : Inv8 s i S) : InvL s.l S s.seq s.seq.toNat := by
  have h1 := h.seq
  have h2 := h.len
  have h3 := h.cost
  have h4 := h.mlow
  have h5 := h.comp
  exact ⟨h.rel, h.seqs, by omega, by omega, by omega, by omega⟩
theorem peekC8 {l : Lad} {S : List Item} {b : Int} {n : Nat} (h : InvL l S b n) (hn : n ≤ 10000) : PSpec Try.prog 51 [l.v] (.tup [(peekG l).1.v, (peekG l).2.1.v, V.bool (peekG l).2.2]) := peekC l.siz l (h.asks hn).1
theorem InvL.peek {l : Lad} {S : List Item} {b : Int} {n : Nat} (h : InvL l S b n) (hn : n ≤ 10000) : (peekG l).1 = fillG l ∧ InvL (fillG l) S b n ∧ (peekG l).2 = (popG l).2 := by
  have hs := h.sz hn
  have hf := fillG_filled h.rel.good hs
  have h1 := hf.cost
  have h2 := hf.more
  have h3 := hf.same
  have h4 := h.cost
  have h5 := h.mlow
  have h6 := h.comp
  have hr := rel_fill h.rel hs
  have hi : InvL (fillG l) S b n := ⟨hr, h.seqs, h.len, by omega, by omega, by omega⟩
  rcases rel_pop h.rel hs with ⟨_, e1, e2, _⟩ | ⟨x, T, _, e1, e2, _, _⟩
  · exact ⟨by rw [e2], hi, by rw [e1, e2]⟩
  · exact ⟨by rw [e2], hi, by rw [e1, e2]⟩
theorem lValidNo (l : Lad) (h : l.topStart < 0) : PSpec Try.prog 53 [l.v] (V.bool false) := by
  refine pspec tab_ok mix Try.func53 (by kernel_rfl) rfl rfl ?_
  ((conv => whnf); (repeat (first | ((first | refine z1 ?_ | refine z2 ?_ | refine z3 ?_ | refine idxB_at (by decide) rfl ?_ | refine atB_at (by decide) (by decide) ?_ | refine getB_lit _ rfl ?_ | refine z7 ?_); conv => whnf) | exact True.intro)))
  rw [show decide (l.topStart < 0) = true from decide_eq_true h]
  ((conv => whnf); (repeat (first | ((first | refine z1 ?_ | refine z2 ?_ | refine z3 ?_ | refine idxB_at (by decide) rfl ?_ | refine atB_at (by decide) (by decide) ?_ | refine getB_lit _ rfl ?_ | refine z7 ?_); conv => whnf) | exact True.intro)))
  exact .same rfl
/-! ### the fixed examples -/
def hd8 : Nat → Lad
  | 0 => ⟨0, [], [], [], 0, 0⟩
  | k + 1 => insLad (hd8 k) ⟨100 - 10 * (k : Int), k, 0⟩
theorem hd8_inv : ∀ k, k ≤ 6 → ∃ S, InvL (hd8 k) S k k
  | 0, _ => ⟨[], invL_zero⟩
  | k + 1, h => by
    obtain ⟨S, hS⟩ := hd8_inv k (by omega)
    exact ⟨_, hS.ins (it := ⟨100 - 10 * (k : Int), k, 0⟩) ⟨by dsimp only; omega, by dsimp only; omega⟩ (by dsimp only; omega) (by dsimp only; omega)⟩
theorem hd8_pop : (popG (hd8 6)).2 = (⟨50, 5, 0⟩, true) ∧ (popG (hd8 6)).1.topStart = 101 ∧ (popG (hd8 6)).1.rungs.map Rng.width = [7] ∧ (hd8 6).moves = 6 := by decide +kernel
theorem hd8_pop2 : (popG (insLad (popG (hd8 6)).1 ⟨55, 9, 0⟩)).2 = (⟨55, 9, 0⟩, true) ∧ (popG (insLad (popG (hd8 6)).1 ⟨55, 9, 0⟩)).1.items.length = 5 := by decide +kernel
theorem head8_aux (g : Nat → Lad) (ml jl nl zl : Lad) (h0 : g 0 = ⟨0, [], [], [], 0, 0⟩) (hg : ∀ k : Nat, g (k + 1) = insLad (g k) ⟨100 - 10 * (k : Int), k, 0⟩) (hinv : ∀ k : Nat, k ≤ 6 → ∃ S, InvL (g k) S k k)
    (p1 : PSpec Try.prog 52 [(g 6).v] (.tup [ml.v, Item.v ⟨50, 5, 0⟩, V.bool true])) (p2 : PSpec Try.prog 49 [ml.v, Item.v ⟨55, 9, 0⟩] jl.v) (p3 : PSpec Try.prog 52 [jl.v] (.tup [nl.v, Item.v ⟨55, 9, 0⟩, V.bool true]))
    (p4 : PSpec Try.prog 48 [nl.v] (V.int 5)) (p5 : PSpec Try.prog 53 [nl.v] (V.bool true)) (p6 : PSpec Try.prog 52 [Lad.v ⟨0, [], [], [], 0, 0⟩] (.tup [zl.v, Item.v ⟨0, 0, 0⟩, V.bool false]))
    (e2 : ml.topStart = 101) (e3 : ml.rungs.map Rng.width = [7]) (e4 : (g 6).moves = 6) : PSpec Try.prog 46 [] (V.bool true) := by
  refine pspec tab_ok mix Try.func46 (by kernel_rfl) rfl rfl ?_
  ((conv => whnf); (repeat (first | ((first | refine z1 ?_ | refine z2 ?_ | refine z3 ?_ | refine idxB_at (by decide) rfl ?_ | refine atB_at (by decide) (by decide) ?_ | refine getB_lit _ rfl ?_ | refine z7 ?_); conv => whnf) | exact True.intro)))
  refine callB newLadC ?_
  ((conv => whnf); (repeat (first | ((first | refine z1 ?_ | refine z2 ?_ | refine z3 ?_ | refine idxB_at (by decide) rfl ?_ | refine atB_at (by decide) (by decide) ?_ | refine getB_lit _ rfl ?_ | refine z7 ?_); conv => whnf) | exact True.intro)))
  refine loopB tab_ok mix [] [] (fun i : Nat => [(1, .p 1 6 0 0), (2, V.int i)]) (fun i => [(1, ladB (g i))]) (fun i => i ≤ 6) (fun i => 6 - i) [(1, 128)] 0 rfl (by omega) (by rw [h0]; ((conv => whnf); (repeat (first | ((first | refine z1 ?_ | refine z2 ?_ | refine z3 ?_ | refine idxB_at (by decide) rfl ?_ | refine atB_at (by decide) (by decide) ?_ | refine getB_lit _ rfl ?_ | refine z7 ?_); conv => whnf) | exact True.intro)))) ?_
  rintro i hi
  obtain ⟨S, hI⟩ := hinv i hi
  ((conv => whnf); (repeat (first | ((first | refine z1 ?_ | refine z2 ?_ | refine z3 ?_ | refine idxB_at (by decide) rfl ?_ | refine atB_at (by decide) (by decide) ?_ | refine getB_lit _ rfl ?_ | refine z7 ?_); conv => whnf) | exact True.intro)))
  refine br_dec (fun u => ?_) (fun u => ?_) <;> ((conv => whnf); (repeat (first | ((first | refine z1 ?_ | refine z2 ?_ | refine z3 ?_ | refine idxB_at (by decide) rfl ?_ | refine atB_at (by decide) (by decide) ?_ | refine getB_lit _ rfl ?_ | refine z7 ?_); conv => whnf) | exact True.intro)))
  · have u' : i < 6 := by omega
    refine callB (insertC8 hI (by omega) (it := ⟨100 - 10 * (i : Int), i, 0⟩) ⟨by dsimp only; omega, by dsimp only; omega⟩ (Int.le_refl _)) ?_
    ((conv => whnf); (repeat (first | ((first | refine z1 ?_ | refine z2 ?_ | refine z3 ?_ | refine idxB_at (by decide) rfl ?_ | refine atB_at (by decide) (by decide) ?_ | refine getB_lit _ rfl ?_ | refine z7 ?_); conv => whnf) | exact True.intro)))
    refine .mk [] (i + 1) (by omega) (by omega) ?_
    rw [hg]
    ((conv => whnf); (repeat (first | ((first | refine z1 ?_ | refine z2 ?_ | refine z3 ?_ | refine idxB_at (by decide) rfl ?_ | refine atB_at (by decide) (by decide) ?_ | refine getB_lit _ rfl ?_ | refine z7 ?_); conv => whnf) | exact True.intro)))
  · obtain rfl : i = 6 := by omega
    refine callB p1 ?_
    ((conv => whnf); (repeat (first | ((first | refine z1 ?_ | refine z2 ?_ | refine z3 ?_ | refine idxB_at (by decide) rfl ?_ | refine atB_at (by decide) (by decide) ?_ | refine getB_lit _ rfl ?_ | refine z7 ?_); conv => whnf) | exact True.intro)))
    refine callB p2 ?_
    ((conv => whnf); (repeat (first | ((first | refine z1 ?_ | refine z2 ?_ | refine z3 ?_ | refine idxB_at (by decide) rfl ?_ | refine atB_at (by decide) (by decide) ?_ | refine getB_lit _ rfl ?_ | refine z7 ?_); conv => whnf) | exact True.intro)))
    refine callB p3 ?_
    ((conv => whnf); (repeat (first | ((first | refine z1 ?_ | refine z2 ?_ | refine z3 ?_ | refine idxB_at (by decide) rfl ?_ | refine atB_at (by decide) (by decide) ?_ | refine getB_lit _ rfl ?_ | refine z7 ?_); conv => whnf) | exact True.intro)))
    refine callB newLadC ?_
    ((conv => whnf); (repeat (first | ((first | refine z1 ?_ | refine z2 ?_ | refine z3 ?_ | refine idxB_at (by decide) rfl ?_ | refine atB_at (by decide) (by decide) ?_ | refine getB_lit _ rfl ?_ | refine z7 ?_); conv => whnf) | exact True.intro)))
    refine callB p6 ?_
    ((conv => whnf); (repeat (first | ((first | refine z1 ?_ | refine z2 ?_ | refine z3 ?_ | refine idxB_at (by decide) rfl ?_ | refine atB_at (by decide) (by decide) ?_ | refine getB_lit _ rfl ?_ | refine z7 ?_); conv => whnf) | exact True.intro)))
    obtain ⟨r0, hr0, hw0⟩ : ∃ r0, ml.rungs = [r0] ∧ r0.width = 7 := by
      cases hr : ml.rungs with
      | nil => rw [hr] at e3; cases e3
      | cons a t =>
        rw [hr] at e3
        simp only [List.map_cons, List.cons.injEq, List.map_eq_nil_iff] at e3
        obtain ⟨h1, rfl⟩ := e3
        exact ⟨a, rfl, h1⟩
    rw [hr0]
    ((conv => whnf); (repeat (first | ((first | refine z1 ?_ | refine z2 ?_ | refine z3 ?_ | refine idxB_at (by decide) rfl ?_ | refine atB_at (by decide) (by decide) ?_ | refine getB_lit _ rfl ?_ | refine z7 ?_); conv => whnf) | exact True.intro)))
    refine eqB [true, true, true] (by kernel_rfl) rfl rfl rfl ?_
    ((conv => whnf); (repeat (first | ((first | refine z1 ?_ | refine z2 ?_ | refine z3 ?_ | refine idxB_at (by decide) rfl ?_ | refine atB_at (by decide) (by decide) ?_ | refine getB_lit _ rfl ?_ | refine z7 ?_); conv => whnf) | exact True.intro)))
    refine eqB [true, true, true] (by kernel_rfl) rfl rfl rfl ?_
    ((conv => whnf); (repeat (first | ((first | refine z1 ?_ | refine z2 ?_ | refine z3 ?_ | refine idxB_at (by decide) rfl ?_ | refine atB_at (by decide) (by decide) ?_ | refine getB_lit _ rfl ?_ | refine z7 ?_); conv => whnf) | exact True.intro)))
    refine callB p4 ?_
    ((conv => whnf); (repeat (first | ((first | refine z1 ?_ | refine z2 ?_ | refine z3 ?_ | refine idxB_at (by decide) rfl ?_ | refine atB_at (by decide) (by decide) ?_ | refine getB_lit _ rfl ?_ | refine z7 ?_); conv => whnf) | exact True.intro)))
    rw [e2]
    ((conv => whnf); (repeat (first | ((first | refine z1 ?_ | refine z2 ?_ | refine z3 ?_ | refine idxB_at (by decide) rfl ?_ | refine atB_at (by decide) (by decide) ?_ | refine getB_lit _ rfl ?_ | refine z7 ?_); conv => whnf) | exact True.intro)))
    rw [hw0]
    ((conv => whnf); (repeat (first | ((first | refine z1 ?_ | refine z2 ?_ | refine z3 ?_ | refine idxB_at (by decide) rfl ?_ | refine atB_at (by decide) (by decide) ?_ | refine getB_lit _ rfl ?_ | refine z7 ?_); conv => whnf) | exact True.intro)))
    rw [e4]
    ((conv => whnf); (repeat (first | ((first | refine z1 ?_ | refine z2 ?_ | refine z3 ?_ | refine idxB_at (by decide) rfl ?_ | refine atB_at (by decide) (by decide) ?_ | refine getB_lit _ rfl ?_ | refine z7 ?_); conv => whnf) | exact True.intro)))
    refine callB p5 ?_
    ((conv => whnf); (repeat (first | ((first | refine z1 ?_ | refine z2 ?_ | refine z3 ?_ | refine idxB_at (by decide) rfl ?_ | refine atB_at (by decide) (by decide) ?_ | refine getB_lit _ rfl ?_ | refine z7 ?_); conv => whnf) | exact True.intro)))
    refine callC (lValidNo ⟨-1, [], [], [], 0, 0⟩ (by decide)) ?_
    ((conv => whnf); (repeat (first | ((first | refine z1 ?_ | refine z2 ?_ | refine z3 ?_ | refine idxB_at (by decide) rfl ?_ | refine atB_at (by decide) (by decide) ?_ | refine getB_lit _ rfl ?_ | refine z7 ?_); conv => whnf) | exact True.intro)))
    exact .same rfl
theorem headC8 : PSpec Try.prog 46 [] (V.bool true) := by
  obtain ⟨S, hI⟩ := hd8_inv 6 (by omega)
  obtain ⟨e1, e2, e3, e4⟩ := hd8_pop
  obtain ⟨e5, e6⟩ := hd8_pop2
  have p1 := popC8 hI (by omega)
  obtain ⟨T, hm⟩ : ∃ T, InvL (popG (hd8 6)).1 T 6 6 := by
    rcases hI.pop (by omega) with ⟨_, _, h⟩ | ⟨_, T, _, _, h⟩
    · exact ⟨_, h⟩
    · exact ⟨T, h⟩
  rw [e1] at p1
  have p2 := insertC8 hm (by omega) (it := ⟨55, 9, 0⟩) (by decide) (by decide)
  have hj := hm.ins (it := ⟨55, 9, 0⟩) (by decide) (by decide) (by decide)
  have p3 := popC8 hj (by omega)
  obtain ⟨T', hn⟩ : ∃ T, InvL (popG (insLad (popG (hd8 6)).1 ⟨55, 9, 0⟩)).1 T 10 7 := by
    rcases hj.pop (by omega) with ⟨_, _, h⟩ | ⟨_, T, _, _, h⟩
    · exact ⟨_, h⟩
    · exact ⟨T, h⟩
  rw [e5] at p3
  have p4 := lenC8 hn (by omega)
  rw [hn.rel.perm.length_eq, e6] at p4
  have p5 := validC8 hn (by omega)
  have p6 := popC8 invL_zero (by omega)
  rcases invL_zero.pop (by omega) with ⟨_, e7, _⟩ | ⟨_, _, e7, _⟩
  case inr => cases e7
  rw [e7] at p6
  dsimp only at p1 p3 p6
  exact head8_aux hd8 _ _ _ _ rfl (fun _ => rfl) hd8_inv p1 p2 p3 p4 p5 p6 e2 e3 e4
end Go.Proofs.Ytmihhkcbbdpnaaa.Abs
