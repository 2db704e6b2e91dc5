/- Laws of stores as contracts: what Peek and Drop do. -/
import Derived.Test.YtajgcanfngcfhaaGreatI3
namespace Go.Proofs.YtajgcanfngcfhaaGreat.Abs
open Go.Proofs
set_option maxRecDepth 10000
set_option linter.unusedSimpArgs false
set_option linter.unusedVariables false
theorem insI_cons {x e : Item} {T : List Item} (h : Bf x e) : insI (x :: T) e = x :: insI T e := by
  unfold insI posI
  have hd : decide (cmpItem x e < 0) = true := decide_eq_true h
  rw [List.takeWhile_cons, if_pos hd]
  simp
theorem bf_time {x y : Item} (h : x.time < y.time) : Bf x y := by
  unfold Bf cmpItem or2 cmpI
  rw [if_pos h, if_neg (by decide)]
  decide
theorem SOk.head_top {n : Nat} {s : Sto} {x : Item} {T : List Item} {A : Nat → Prop} {K : Nat} (h : SOk n s (x :: T) A K) : x.time < (fillG s.q).topStart := by
  obtain ⟨k, hk, hq⟩ := h.q
  have hb : k ≤ 100000 := by have := h.kb; omega
  obtain ⟨p1, p2, p3⟩ := hq.peek hb
  have hf := (hq.first hb).1
  have hg := p2.rel.good
  rw [← p3, peekG_eq] at hf
  cases hc : (fillG s.q).bottom with
  | nil => rw [hc] at hf; simp at hf
  | cons y t =>
    rw [hc] at hf
    have e : y = x := congrArg Prod.fst hf
    have := (hg.bot y (by rw [hc]; exact List.mem_cons_self)).2
    have h3 := bnd_le (fillG s.q).rungs (fillG s.q).topStart
    rw [← e]; omega
theorem take_pics {s : Sto} (hw : 0 < s.m.words.length) (hh : s.all4 0) (q : Lad) : (s.take 0 q).pics = s.pics ∧ (s.take 0 q).idle = s.idle ∧ (s.take 0 q).next = s.next ∧ (s.take 0 q).q = q := by
  rw [take_id hh]
  refine ⟨?_, rfl, rfl, rfl⟩
  unfold Sto.pics
  refine List.map_congr_left fun p _ => ?_
  obtain ⟨e1, e2⟩ := replace_word (th := 0) (q := q) hw p
  unfold Sto.st at e1
  unfold Sto.gn at e2
  unfold Sto.pic
  rw [e1, e2]; rfl
theorem item_new {s : Sto} {th t : Int} {l : List Int} {i : Nat} (h : i < s.slots.length) : (s.alloc1 th t l i).item i = ⟨t, s.next, i⟩ := by
  have := s.slot_set i ⟨0, 0, t, s.next⟩ i h
  rw [if_pos rfl] at this
  have e : (s.alloc1 th t l i).slot i = ⟨0, 0, t, s.next⟩ := this
  unfold Sto.item
  rw [e]
end Go.Proofs.YtajgcanfngcfhaaGreat.Abs
