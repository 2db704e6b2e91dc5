/- The store in order: sizes, and what its methods do in it. -/
import Derived.Test.YtajgcanfngcfhaaGreatH12
namespace Go.Proofs.YtajgcanfngcfhaaGreat.Abs
open Go.Proofs
set_option maxRecDepth 10000
set_option linter.unusedSimpArgs false
set_option linter.unusedVariables false
theorem nodup_lt_len : ∀ (n : Nat) (l : List Nat), l.Nodup → (∀ x ∈ l, x < n) → l.length ≤ n
  | 0, l, _, h => by
    cases l with
    | nil => simp
    | cons a l => exact absurd (h a List.mem_cons_self) (by omega)
  | n + 1, l, hn, h => by
    by_cases hm : n ∈ l
    · have h1 := nodup_lt_len n (l.erase n) (hn.erase n) fun x hx => by
        have h2 := (hn.mem_erase_iff).1 hx
        have := h x h2.2
        have := h2.1
        omega
      rw [List.length_erase_of_mem hm] at h1
      omega
    · have h1 := nodup_lt_len n l hn fun x hx => by
        have := h x hx
        have : x ≠ n := fun e => hm (e ▸ hx)
        omega
      omega
theorem nodup_map_on {α β : Type} {f : α → β} : ∀ {l : List α}, l.Nodup → (∀ a ∈ l, ∀ b ∈ l, f a = f b → a = b) → (l.map f).Nodup
  | [], _, _ => .nil
  | a :: l, h, hf => by
    rw [List.nodup_cons] at h
    rw [List.map_cons, List.nodup_cons]
    refine ⟨fun hm => ?_, nodup_map_on h.2 fun x hx y hy => hf x (List.mem_cons_of_mem _ hx) y (List.mem_cons_of_mem _ hy)⟩
    obtain ⟨b, hb, e⟩ := List.mem_map.1 hm
    have := hf b (List.mem_cons_of_mem _ hb) a List.mem_cons_self e
    subst this; exact h.1 hb
theorem SOk.idle_len {n : Nat} {s : Sto} {S : List Item} {A : Nat → Prop} {K : Nat} (h : SOk n s S A K) : s.idle.length ≤ n := by
  have := nodup_lt_len n (s.idle.map Int.toNat) (nodup_map_on h.idn fun a ha b hb e => by
    have := h.idl a ha
    have := h.idl b hb
    omega) fun x hx => by
      obtain ⟨y, hy, rfl⟩ := List.mem_map.1 hx
      have := h.idl y hy
      omega
  simpa using this
theorem SOk.nodup {n : Nat} {s : Sto} {S : List Item} {A : Nat → Prop} {K : Nat} (h : SOk n s S A K) : S.Nodup :=
  List.Pairwise.imp (S := fun x y => x ≠ y) (fun {x y} hxy e => Bf.irrefl x (by rw [← e] at hxy; exact hxy)) h.srt
theorem SOk.len {n : Nat} {s : Sto} {S : List Item} {A : Nat → Prop} {K : Nat} (h : SOk n s S A K) : S.length ≤ n := by
  have hs : ∀ x ∈ S, ∃ i : Nat, i < n ∧ x = s.item i := fun x hx => let ⟨i, a, b, _⟩ := h.itm x hx; ⟨i, a, b⟩
  have := nodup_lt_len n (S.map fun x => x.slot.toNat) (nodup_map_on h.nodup fun a ha b hb e => by
    obtain ⟨i, _, rfl⟩ := hs a ha
    obtain ⟨j, _, rfl⟩ := hs b hb
    have e : ((i : Int)).toNat = ((j : Int)).toNat := e
    have : i = j := by omega
    rw [this]) fun x hx => by
      obtain ⟨y, hy, rfl⟩ := List.mem_map.1 hx
      obtain ⟨i, hi, rfl⟩ := hs y hy
      show ((i : Int)).toNat < n
      omega
  simpa using this
theorem touches_id {m : Mem} {th : Int} : ∀ {l : List Nat}, (∀ i ∈ l, m.held i = (true, th)) → m.touches th l = m
  | [], _ => rfl
  | i :: l, h => by
    have e : m.touch th i = m := by unfold Mem.touch; rw [if_pos (h i List.mem_cons_self)]
    show (m.touch th i).touches th l = m
    rw [e]
    exact touches_id fun j hj => h j (List.mem_cons_of_mem _ hj)
theorem Sto.touch_id {s : Sto} {th : Int} {l : List Nat} (h : ∀ i ∈ l, s.m.held i = (true, th)) : s.touch th l = s := by
  unfold Sto.touch; rw [touches_id h]
/-- a store in order, its log and violations bounded -/
structure SB (n : Nat) (s : Sto) (S : List Item) (A : Nat → Prop) (K : Nat) : Prop extends SOk n s S A K where
  log : s.m.log.length ≤ 10 * K + 10
  viol : 0 ≤ s.m.viol ∧ s.m.viol ≤ 10 * K + 10
theorem SB.fits {n : Nat} {s : Sto} {S : List Item} {A : Nat → Prop} {K : Nat} (h : SB n s S A K) : s.Fits := by
  have h1 := h.log
  have h2 := h.viol
  have h3 := h.kb
  have h4 := h.n12
  have h5 := h.nx
  have h6 := h.idle_len
  exact ⟨⟨by omega, by omega, by rw [h.nw]; omega, by rw [h.nm]; omega⟩, by rw [h.ns]; omega, by omega, by omega⟩
theorem SB.smallv {n : Nat} {s : Sto} {S : List Item} {A : Nat → Prop} {K : Nat} (h : SB n s S A K) : s.m.viol < 100000000 := by
  have h2 := h.viol
  have h3 := h.kb
  omega
/-- thread th holds all mutexes -/
def Sto.all4 (s : Sto) (th : Int) : Prop := ∀ i, i < 4 → s.m.held i = (true, th)
theorem replace_keeps (s : Sto) (th : Int) (q : Lad) : (s.replace th q).m.mtx = s.m.mtx ∧ (s.replace th q).m.viol = s.m.viol ∧ (s.replace th q).m.log.length ≤ s.m.log.length + 1 ∧ s.m.log.length ≤ (s.replace th q).m.log.length := by
  unfold Sto.replace
  dsimp only
  split
  · exact ⟨rfl, rfl, by omega, by omega⟩
  · exact ⟨rfl, rfl, by simp [Mem.store, Mem.put], by simp [Mem.store, Mem.put]⟩
theorem all4_of {s t : Sto} {th : Int} (h : s.all4 th) (e : t.m.mtx = s.m.mtx) : t.all4 th := fun i hi => by
  have := h i hi
  unfold Mem.held at this ⊢
  rw [e]; exact this
theorem SOk.rungs {n : Nat} {s : Sto} {S : List Item} {A : Nat → Prop} {K : Nat} (h : SOk n s S A K) : (∀ r ∈ s.q.rungs, r.Fits) ∧ s.q.rungs.length < 1000000 := by
  obtain ⟨k, hk, hq⟩ := h.q
  have hs := h.sz
  have hd := hq.rel.good.depth
  exact ⟨fun r hr => (ok_of hq.rel.good hs r hr).1.fits, by omega⟩
theorem SOk.small {n : Nat} {s : Sto} {S : List Item} {A : Nat → Prop} {K : Nat} (h : SOk n s S A K) : s.q.Small ∧ s.q.items.length ≤ 12 ∧ ssort cmpEv s.q.items = S := by
  obtain ⟨k, hk, hq⟩ := h.q
  have := hq.rel.perm.length_eq
  have := h.len
  have := h.n12
  exact ⟨hq.small (by have := h.kb; omega), by omega, Abs.sort_items hq⟩
theorem SOk.firstP {n : Nat} {s : Sto} {S : List Item} {A : Nat → Prop} {K : Nat} (h : SOk n s S A K) : PSpec Tryz.prog 80 [s.q.v] (.tup [(fillG s.q).v, (headI S).v, V.bool (decide (S ≠ []))]) ∧ PSpec Tryz.prog 97 [s.q.v] (.tup [(popG s.q).1.v, (headI S).v, V.bool (decide (S ≠ []))]) := by
  obtain ⟨k, hk, hq⟩ := h.q
  have hb : k ≤ 100000 := by have := h.kb; omega
  have e1 := (hq.first hb).1
  obtain ⟨e2, _, e3⟩ := hq.peek hb
  have p1 := hq.peekC hb
  have p2 := hq.popC hb
  rw [e2, e3, e1] at p1
  rw [e1] at p2
  exact ⟨p1, p2⟩
end Go.Proofs.YtajgcanfngcfhaaGreat.Abs
