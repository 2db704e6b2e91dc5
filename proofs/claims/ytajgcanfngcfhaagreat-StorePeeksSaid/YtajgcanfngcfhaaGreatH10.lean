/- Ladders and sorted lists, with free numbers: what Peek, Pop and Insert do. -/
import Derived.Test.YtajgcanfngcfhaaGreatH9
namespace Go.Proofs.YtajgcanfngcfhaaGreat.Abs
open Go.Proofs
set_option maxRecDepth 10000
set_option linter.unusedSimpArgs false
set_option linter.unusedVariables false
theorem insI_mem8 {S : List Item} {it x : Item} : x ∈ insI S it ↔ x = it ∨ x ∈ S := by
  rw [(insI_perm S it).mem_iff]; simp
/-- l is the sorted list S; numbers lie below b; n insertions -/
structure InvL (l : Lad) (S : List Item) (b : Int) (n : Nat) : Prop where
  rel : Rel l S
  seqs : ∀ x ∈ S, 0 ≤ x.seq ∧ x.seq < b
  len : S.length ≤ n
  cost : l.moves + l.pot ≤ 6 * (n : Int)
  mlow : (n : Int) ≤ l.moves
  comp : (n : Int) ≤ l.compares ∧ l.compares ≤ 5 * (n : Int)
theorem InvL.sz {l : Lad} {S : List Item} {b : Int} {n : Nat} (h : InvL l S b n) (hn : n ≤ 100000) : l.Sz := by
  have h1 := h.rel.perm.length_eq
  have h2 := h.len
  have h3 := h.cost
  have h4 := h.comp
  exact ⟨by omega, by omega, by omega⟩
theorem InvL.uq {l : Lad} {S : List Item} {b : Int} {n : Nat} (h : InvL l S b n) {it : Item} (hs : ∀ x ∈ S, x.seq ≠ it.seq) : ∀ x ∈ S, Uq x it := fun x hx => by
  have := hs x hx
  unfold Uq
  rw [Ne, cmpItem_zero]
  omega
theorem rel_zero : Rel ⟨0, [], [], [], 0, 0⟩ [] := ⟨⟨⟨by decide, by decide⟩, fun x hx => by simp at hx, trivial, by decide, fun x hx => by simp at hx, .nil, .nil, ⟨by decide, by decide⟩⟩, .nil, .nil⟩
theorem invL_zero : InvL ⟨0, [], [], [], 0, 0⟩ [] 0 0 := ⟨rel_zero, fun x hx => by simp at hx, by decide, by decide, by decide, by decide, by decide⟩
theorem InvL.mono {l : Lad} {S : List Item} {b c : Int} {n : Nat} (h : InvL l S b n) (hc : b ≤ c) : InvL l S c n := ⟨h.rel, fun x hx => by have := h.seqs x hx; omega, h.len, h.cost, h.mlow, h.comp⟩
theorem InvL.ins {l : Lad} {S : List Item} {b : Int} {n : Nat} (h : InvL l S b n) {it : Item} (ht : 0 ≤ it.time ∧ it.time ≤ 1152921504606846976) (h0 : 0 ≤ it.seq ∧ it.seq < b) (hs : ∀ x ∈ S, x.seq ≠ it.seq) : InvL (insLad l it) (insI S it) b (n + 1) := by
  obtain ⟨r1, r2, _⟩ := rel_ins h.rel ht (h.uq hs)
  have m1 := r2.moves
  have m2 := r2.pot
  have m3 := r2.comp
  have hcost := h.cost
  have hcomp := h.comp
  have hmlow := h.mlow
  have hlen := h.len
  refine ⟨r1, fun x hx => ?_, by have := (insI_perm S it).length_eq; rw [List.length_cons] at this; omega, by push_cast; omega, by push_cast; omega, by push_cast; omega⟩
  rcases insI_mem8.1 hx with rfl | hx
  · exact h0
  · exact h.seqs x hx
theorem InvL.pop {l : Lad} {S : List Item} {b : Int} {n : Nat} (h : InvL l S b n) (hn : n ≤ 100000) : (S = [] ∧ popG l = (fillG l, ⟨0, 0, 0⟩, false) ∧ InvL (popG l).1 [] b n) ∨ ∃ x T, S = x :: T ∧ popG l = ((popG l).1, x, true) ∧ InvL (popG l).1 T b n := by
  have hs := h.sz hn
  have hcost := h.cost
  have hcomp := h.comp
  have hmlow := h.mlow
  have hlen := h.len
  obtain ⟨c1, c2, c3, c4⟩ := popG_cost h.rel.good hs
  rcases rel_pop h.rel hs with ⟨rfl, e1, _, e3⟩ | ⟨x, T, rfl, e1, _, _, e3⟩
  · exact .inl ⟨rfl, e1, e3, fun x hx => by simp at hx, by simp, by omega, by omega, by omega⟩
  · refine .inr ⟨x, T, rfl, ?_, e3, fun y hy => h.seqs y (List.mem_cons_of_mem _ hy), by rw [List.length_cons] at hlen; omega, by omega, by omega, by omega⟩
    rw [e1]
theorem InvL.asks {l : Lad} {S : List Item} {b : Int} {n : Nat} (h : InvL l S b n) (hn : n ≤ 100000) : Enough l.siz l ∧ (peekG l).1.bottom.length < 1000000 := pop_asks h.rel.good (h.sz hn)
theorem InvL.insC {l : Lad} {S : List Item} {b : Int} {n : Nat} (h : InvL l S b n) (hn : n ≤ 100000) {it : Item} (ht : 0 ≤ it.time ∧ it.time ≤ 1152921504606846976) (hs : ∀ x ∈ S, x.seq ≠ it.seq) : PSpec Tryz.prog 95 [l.v, it.v] ((insLad l it).v) :=
  insertLadC l it (fits_of h.rel.good (h.sz hn)) (rel_ins h.rel ht (h.uq hs)).2.2
theorem InvL.popC {l : Lad} {S : List Item} {b : Int} {n : Nat} (h : InvL l S b n) (hn : n ≤ 100000) : PSpec Tryz.prog 97 [l.v] (.tup [(popG l).1.v, (popG l).2.1.v, V.bool (popG l).2.2]) :=
  Abs.popC l.siz l (h.asks hn).1 (h.asks hn).2
theorem InvL.peekC {l : Lad} {S : List Item} {b : Int} {n : Nat} (h : InvL l S b n) (hn : n ≤ 100000) : PSpec Tryz.prog 80 [l.v] (.tup [(peekG l).1.v, (peekG l).2.1.v, V.bool (peekG l).2.2]) := Abs.peekC l.siz l (h.asks hn).1
theorem InvL.small {l : Lad} {S : List Item} {b : Int} {n : Nat} (h : InvL l S b n) (hn : n ≤ 100000) : l.Small := by
  have h1 := h.rel.perm.length_eq
  have h2 := h.len
  have h3 := h.rel.good.depth
  refine ⟨by omega, by omega, fun r hr => ?_⟩
  obtain ⟨b', k', g1, _⟩ := chain_mem h.rel.good.chain r hr
  have := g1.len; omega
theorem InvL.peek {l : Lad} {S : List Item} {b : Int} {n : Nat} (h : InvL l S b n) (hn : n ≤ 100000) : (peekG l).1 = fillG l ∧ InvL (fillG l) S b n ∧ (peekG l).2 = (popG l).2 := by
  have hs := h.sz hn
  have hf := fillG_filled h.rel.good hs
  have h1 := hf.cost
  have h2 := hf.more
  have h3 := hf.same
  have h4 := h.cost
  have h5 := h.mlow
  have h6 := h.comp
  have hr := rel_fill h.rel hs
  have hi : InvL (fillG l) S b n := ⟨hr, h.seqs, h.len, by omega, by omega, by omega⟩
  rcases rel_pop h.rel hs with ⟨_, e1, e2, _⟩ | ⟨x, T, _, e1, e2, _, _⟩
  · exact ⟨by rw [e2], hi, by rw [e1, e2]⟩
  · exact ⟨by rw [e2], hi, by rw [e1, e2]⟩
/-- the least item, or what Go gives in its place -/
def headI (S : List Item) : Item := S.headD ⟨0, 0, 0⟩
theorem InvL.first {l : Lad} {S : List Item} {b : Int} {n : Nat} (h : InvL l S b n) (hn : n ≤ 100000) : (popG l).2 = (headI S, decide (S ≠ [])) ∧ InvL (popG l).1 (S.drop 1) b n := by
  rcases h.pop hn with ⟨rfl, e1, h2⟩ | ⟨x, T, rfl, e1, h2⟩
  · exact ⟨by rw [e1]; rfl, h2⟩
  · exact ⟨by rw [e1]; rfl, h2⟩
theorem sort_items {l : Lad} {S : List Item} {b : Int} {n : Nat} (h : InvL l S b n) : ssort cmpEv l.items = S := by
  have hs := ssort_lt h.rel.good.uniq
  have hp := (ssort_perm l.items).trans h.rel.perm.symm
  have h2 := h.rel.srt
  clear h
  generalize ssort cmpEv l.items = T at *
  clear l b n
  revert S
  induction T with
  | nil => intro S h2 hp; exact (List.Perm.eq_nil hp.symm).symm
  | cons x T ih =>
    intro S h2 hp
    obtain ⟨S', rfl, h3, h4⟩ := srt_head h2 hp.symm (List.pairwise_cons.1 hs).1
    rw [ih (List.pairwise_cons.1 hs).2 h4 h3.symm]
end Go.Proofs.YtajgcanfngcfhaaGreat.Abs
