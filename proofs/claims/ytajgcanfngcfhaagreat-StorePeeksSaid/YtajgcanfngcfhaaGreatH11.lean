/- Plain law of the store: slots, words, idle ones and queued items agree. -/
import Derived.Test.YtajgcanfngcfhaaGreatH10
namespace Go.Proofs.YtajgcanfngcfhaaGreat.Abs
set_option linter.unusedSimpArgs false
set_option linter.unusedVariables false
theorem Mem.word_put (m : Mem) (th kind : Int) (i : Nat) (v : Int) (ok : Bool) (j : Nat) (h : i < m.words.length) : (m.put th kind i v ok).word j = if j = i then v else m.word j := by
  unfold Mem.word Mem.put
  dsimp only
  rw [List.getElem?_set]
  by_cases e : i = j
  · subst e; rw [if_pos rfl, if_pos h, if_pos rfl]; rfl
  · rw [if_neg e, if_neg (fun x => e x.symm)]
theorem Sto.slot_set (s : Sto) (i : Nat) (x : Slt) (j : Nat) (h : i < s.slots.length) : ((s.slots.set i x)[j]?).getD ⟨0, 0, 0, 0⟩ = if j = i then x else s.slot j := by
  unfold Sto.slot
  rw [List.getElem?_set]
  by_cases e : i = j
  · subst e; rw [if_pos rfl, if_pos h, if_pos rfl]; rfl
  · rw [if_neg e, if_neg (fun x => e x.symm)]
def Sto.st (s : Sto) (i : Nat) : Int := s.m.word (i + 1) % 4
def Sto.gn (s : Sto) (i : Nat) : Int := s.m.word (i + 1) / 4
/-- the store is in order: S its queue, A the slots that are in nobody's queue though not free, K a bound -/
structure SOk (n : Nat) (s : Sto) (S : List Item) (A : Nat → Prop) (K : Nat) : Prop where
  nw : s.m.words.length = n + 1
  nm : s.m.mtx.length = 4
  ns : s.slots.length = n
  n12 : 1 ≤ n ∧ n ≤ 12
  kb : K ≤ 20000
  top : s.m.word 0 = s.q.topStart
  idn : s.idle.Nodup
  idl : ∀ x ∈ s.idle, 0 ≤ x ∧ x < n
  wd : ∀ i, i < n → 0 ≤ s.m.word (i + 1) ∧ s.gn i ≤ K
  fr : ∀ i, i < n → ((i : Int) ∈ s.idle ↔ s.st i = 0)
  sl : ∀ i, i < n → (s.slot i).gen = 0 ∧ (s.slot i).state = 0
  sf : ∀ i, i < n → s.st i = 0 → (s.slot i).time = 0 ∧ (s.slot i).seq = 0
  tm : ∀ i, i < n → s.st i ≠ 0 → (0 ≤ (s.slot i).time ∧ (s.slot i).time ≤ 1152921504606846976) ∧ 0 ≤ (s.slot i).seq ∧ (s.slot i).seq < s.next
  sq : ∀ i j, i < n → j < n → s.st i ≠ 0 → s.st j ≠ 0 → (s.slot i).seq = (s.slot j).seq → i = j
  nx : 0 ≤ s.next ∧ s.next ≤ K
  q : ∃ k, k ≤ K ∧ InvL s.q S s.next k
  itm : ∀ x ∈ S, ∃ i, i < n ∧ x = s.item i ∧ s.st i ≠ 0 ∧ ¬ A i
  all : ∀ i, i < n → s.st i ≠ 0 → A i ∨ s.item i ∈ S
  hand : ∀ i, A i → i < n ∧ s.st i ≠ 0
theorem SOk.mono {n : Nat} {s : Sto} {S : List Item} {A : Nat → Prop} {K L : Nat} (h : SOk n s S A K) (hl : K ≤ L) (hb : L ≤ 20000) : SOk n s S A L :=
  { h with kb := hb, wd := fun i hi => ⟨(h.wd i hi).1, by have := (h.wd i hi).2; omega⟩, nx := ⟨h.nx.1, by have := h.nx.2; omega⟩, q := let ⟨k, hk, hq⟩ := h.q; ⟨k, by omega, hq⟩ }
/-- what does not touch words, slots and queue -/
theorem SOk.same {n : Nat} {s : Sto} {S : List Item} {A : Nat → Prop} {K : Nat} (h : SOk n s S A K) {m : Mem} (hw : m.words = s.m.words) (hm : m.mtx.length = 4) : SOk n { s with m := m } S A K := by
  have e : ∀ i, m.word i = s.m.word i := fun i => by unfold Mem.word; rw [hw]
  have e2 : ∀ i, Sto.st { s with m := m } i = s.st i := fun i => by unfold Sto.st; rw [e]
  have e3 : ∀ i, Sto.gn { s with m := m } i = s.gn i := fun i => by unfold Sto.gn; rw [e]
  exact ⟨by show m.words.length = _; rw [hw]; exact h.nw, hm, h.ns, h.n12, h.kb, by show m.word 0 = _; rw [e]; exact h.top, h.idn, h.idl, fun i hi => by rw [e3]; show 0 ≤ m.word (i + 1) ∧ _; rw [e]; exact h.wd i hi, fun i hi => by rw [e2]; exact h.fr i hi, h.sl, fun i hi => by rw [e2]; exact h.sf i hi,
    fun i hi => by rw [e2]; exact h.tm i hi, fun i j hi hj => by rw [e2, e2]; exact h.sq i j hi hj, h.nx, h.q, fun x hx => by obtain ⟨i, h1, h2, h3, h4⟩ := h.itm x hx; exact ⟨i, h1, h2, by rw [e2]; exact h3, h4⟩, fun i hi => by rw [e2]; exact h.all i hi, fun i hi => by rw [e2]; exact h.hand i hi⟩
theorem SOk.touch {n : Nat} {s : Sto} {S : List Item} {A : Nat → Prop} {K : Nat} (h : SOk n s S A K) (th : Int) (l : List Nat) : SOk n (s.touch th l) S A K := by
  obtain ⟨t1, t2, t3, t4, t5⟩ := touches_same th l s.m
  exact h.same t1 (by rw [t2]; exact h.nm)
theorem SOk.sz {n : Nat} {s : Sto} {S : List Item} {A : Nat → Prop} {K : Nat} (h : SOk n s S A K) : s.q.Sz := by
  obtain ⟨k, hk, hq⟩ := h.q
  exact hq.sz (by have := h.kb; omega)
/-- a word of a live slot gets another state, not Free -/
theorem SOk.mark {n : Nat} {s : Sto} {S : List Item} {A : Nat → Prop} {K : Nat} (h : SOk n s S A K) {i : Nat} (hi : i < n) (hl : s.st i ≠ 0) (th kind : Int) (ok : Bool) {v : Int} (hv : v / 4 = s.gn i) (hs : v % 4 ≠ 0) : SOk n { s with m := s.m.put th kind (i + 1) v ok } S A K := by
  have hwl : i + 1 < s.m.words.length := by rw [h.nw]; omega
  have e : ∀ j, (s.m.put th kind (i + 1) v ok).word j = if j = i + 1 then v else s.m.word j := fun j => Mem.word_put _ _ _ _ _ _ _ hwl
  have e2 : ∀ j, Sto.st { s with m := s.m.put th kind (i + 1) v ok } j = if j = i then v % 4 else s.st j := fun j => by
    unfold Sto.st; dsimp only; rw [e]
    by_cases c : j = i
    · rw [if_pos c, if_pos (by omega)]
    · rw [if_neg c, if_neg (by omega)]
  have e3 : ∀ j, Sto.gn { s with m := s.m.put th kind (i + 1) v ok } j = s.gn j := fun j => by
    unfold Sto.gn; dsimp only; rw [e]
    by_cases c : j = i
    · subst c; rw [if_pos rfl]; exact hv
    · rw [if_neg (by omega)]
  have e4 : ∀ j, Sto.st { s with m := s.m.put th kind (i + 1) v ok } j = 0 ↔ s.st j = 0 := fun j => by
    rw [e2]
    by_cases c : j = i
    · subst c; rw [if_pos rfl]; exact ⟨fun x => absurd x hs, fun x => absurd x hl⟩
    · rw [if_neg c]
  refine ⟨by show (s.m.words.set _ _).length = _; rw [List.length_set]; exact h.nw, h.nm, h.ns, h.n12, h.kb, by show Mem.word _ 0 = _; rw [e, if_neg (by omega)]; exact h.top, h.idn, h.idl, fun j hj => ?_, fun j hj => by rw [e4]; exact h.fr j hj, h.sl, fun j hj => by rw [e4]; exact h.sf j hj,
    fun j hj => by rw [Ne, e4]; exact h.tm j hj, fun a b ha hb => by rw [Ne, e4, Ne, e4]; exact h.sq a b ha hb, h.nx, h.q, fun x hx => ?_, fun j hj => by rw [Ne, e4]; exact h.all j hj, fun j hj => by rw [Ne, e4]; exact h.hand j hj⟩
  · rw [e3]
    refine ⟨?_, (h.wd j hj).2⟩
    show 0 ≤ (s.m.put th kind (i + 1) v ok).word (j + 1)
    rw [e]
    by_cases c : j + 1 = i + 1
    · rw [if_pos c]
      have : 0 ≤ s.gn i := by have := (h.wd i hi).1; unfold Sto.gn; omega
      omega
    · rw [if_neg c]; exact (h.wd j hj).1
  · obtain ⟨j, h1, h2, h3, h4⟩ := h.itm x hx
    exact ⟨j, h1, h2, by rw [Ne, e4]; exact h3, h4⟩
/-- the queue is looked at -/
theorem SOk.queue {n : Nat} {s : Sto} {S T : List Item} {A B : Nat → Prop} {K : Nat} (h : SOk n s S A K) (th : Int) {q : Lad} (hq : ∃ k, k ≤ K ∧ InvL q T s.next k) (hT : ∀ x ∈ T, ∃ i, i < n ∧ x = s.item i ∧ s.st i ≠ 0 ∧ ¬ B i) (hB : ∀ i, i < n → s.st i ≠ 0 → B i ∨ s.item i ∈ T) (hh : ∀ i, B i → i < n ∧ s.st i ≠ 0) : SOk n (s.replace th q) T B K := by
  have hwl : 0 < s.m.words.length := by rw [h.nw]; omega
  have ew : ∀ j, (s.replace th q).m.word (j + 1) = s.m.word (j + 1) := fun j => by
    unfold Sto.replace
    dsimp only
    split
    · rfl
    · unfold Mem.store; rw [Mem.word_put _ _ _ _ _ _ _ hwl, if_neg (by omega)]
  have e0 : (s.replace th q).m.word 0 = q.topStart := by
    unfold Sto.replace
    dsimp only
    split
    · next e => rw [e]; exact h.top
    · unfold Mem.store; rw [Mem.word_put _ _ _ _ _ _ _ hwl, if_pos rfl]
  have e2 : ∀ j, (s.replace th q).st j = s.st j := fun j => by unfold Sto.st; rw [ew]
  have e3 : ∀ j, (s.replace th q).gn j = s.gn j := fun j => by unfold Sto.gn; rw [ew]
  have el : (s.replace th q).m.words.length = s.m.words.length ∧ (s.replace th q).m.mtx = s.m.mtx := by
    unfold Sto.replace
    dsimp only
    split
    · exact ⟨rfl, rfl⟩
    · exact ⟨by simp [Mem.store, Mem.put], rfl⟩
  refine ⟨by rw [el.1]; exact h.nw, by rw [el.2]; exact h.nm, h.ns, h.n12, h.kb, e0, h.idn, h.idl, fun j hj => by rw [e3, ew]; exact h.wd j hj, fun j hj => by rw [e2]; exact h.fr j hj, h.sl, fun j hj => by rw [e2]; exact h.sf j hj,
    fun j hj => by rw [e2]; exact h.tm j hj, fun a b ha hb => by rw [e2, e2]; exact h.sq a b ha hb, h.nx, hq, fun x hx => ?_, fun j hj => by rw [e2]; exact hB j hj, fun j hj => by rw [e2]; exact hh j hj⟩
  obtain ⟨i, h1, h2, h3, h4⟩ := hT x hx
  exact ⟨i, h1, h2, by rw [e2]; exact h3, h4⟩
theorem SOk.peek {n : Nat} {s : Sto} {S : List Item} {A : Nat → Prop} {K : Nat} (h : SOk n s S A K) (th : Int) : SOk n (s.take th (fillG s.q)) S A K := by
  obtain ⟨k, hk, hq⟩ := h.q
  exact (h.touch th [0, 1, 2]).queue th ⟨k, hk, (hq.peek (by have := h.kb; omega)).2.1⟩ (h.touch th [0, 1, 2]).itm (h.touch th [0, 1, 2]).all (h.touch th [0, 1, 2]).hand
end Go.Proofs.YtajgcanfngcfhaaGreat.Abs
