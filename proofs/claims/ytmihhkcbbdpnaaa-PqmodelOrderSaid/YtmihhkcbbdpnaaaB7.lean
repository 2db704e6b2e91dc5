/- The abstract machine, part 19: a region whose order is open comes, in every order, to the state that the order of the text gives. -/
import Derived.Test.YtmihhkcbbdpnaaaB6
namespace Go.Proofs.Ytmihhkcbbdpnaaa.Abs
set_option linter.unusedVariables false
set_option linter.unusedSimpArgs false

/-! ### chains and their orders -/
section
variable {σ : Type} {R : Nat → σ → σ → Prop}
inductive Chain (R : Nat → σ → σ → Prop) : List Nat → σ → σ → Prop
  | nil (s : σ) : Chain R [] s s
  | cons {i : Nat} {l : List Nat} {s s1 s2 : σ} : R i s s1 → Chain R l s1 s2 → Chain R (i :: l) s s2

def Sw (R : Nat → σ → σ → Prop) (i j : Nat) : Prop := ∀ s s1 s2, R i s s1 → R j s1 s2 → ∃ s1', R j s s1' ∧ R i s1' s2

theorem Chain.front {x : Nat} {q : List Nat} : ∀ (p : List Nat) (s s' : σ), Chain R (p ++ x :: q) s s' → (∀ y ∈ p, Sw R y x) → Chain R (x :: (p ++ q)) s s' := by
  intro p
  induction p with
  | nil => intro s s' h _; exact h
  | cons y p ih =>
    intro s s' h hs
    cases h with
    | cons h1 h2 =>
      have := ih _ _ h2 (fun z hz => hs z (by simp [hz]))
      cases this with
      | cons g1 g2 =>
        obtain ⟨s1', k1, k2⟩ := hs y (by simp) _ _ _ h1 g1
        exact .cons k1 (.cons k2 g2)

theorem Chain.perm : ∀ (l' l : List Nat) (s s' : σ), l'.Perm l → l.Nodup → (∀ i j, [i, j].Sublist l → [j, i].Sublist l' → Sw R i j) → Chain R l s s' → Chain R l' s s' := by
  intro l'
  induction l' with
  | nil => intro l s s' hp _ _ h; have := hp.symm.eq_nil; subst this; exact h
  | cons x l'' ih =>
    intro l s s' hp hnd hsw h
    have hx : x ∈ l := hp.subset (by simp)
    obtain ⟨p, q, rfl⟩ := List.append_of_mem hx
    have hp2 : l''.Perm (p ++ q) := (hp.trans List.perm_middle).cons_inv
    have hnd2 : (x :: (p ++ q)).Nodup := (List.perm_middle.nodup_iff).1 hnd
    have hfront := Chain.front p s s' h (fun y hy => hsw y x
      ((List.singleton_sublist.2 hy).append (List.singleton_sublist.2 (by simp)))
      (List.Sublist.cons_cons x (List.singleton_sublist.2 (hp2.symm.subset (by simp [hy])))))
    cases hfront with
    | cons g1 g2 =>
      refine .cons g1 (ih _ _ _ hp2 (List.nodup_cons.1 hnd2).2 (fun i j h1 h2 => hsw i j (h1.trans ?_) (h2.cons x)) g2)
      exact List.Sublist.append (List.Sublist.refl p) (List.sublist_cons_self x q)
end

/-! ### the orders that the edges allow -/
def bindsA (e : Edge) : Bool := Region.binds .any e

structure Topo (ops : Array Oper) (l : List Nat) : Prop where
  lt : ∀ i ∈ l, i < ops.size
  nodup : l.Nodup
  dep : ∀ (pre : List Nat) (x : Nat) (post : List Nat) (o : Oper), l = pre ++ x :: post → ops[x]? = some o → ∀ e ∈ o.after.toList, bindsA e = true → e.on ∈ pre

inductive Bef (ops : Array Oper) : Nat → Nat → Prop
  | edge {j : Nat} {o : Oper} {e : Edge} (ho : ops[j]? = some o) (he : e ∈ o.after.toList) (hb : bindsA e = true) : Bef ops e.on j
  | trans {i j : Nat} {o : Oper} {e : Edge} (ho : ops[j]? = some o) (he : e ∈ o.after.toList) (hb : bindsA e = true) (h : Bef ops i e.on) : Bef ops i j

theorem Topo.bef {ops : Array Oper} {l : List Nat} (ht : Topo ops l) {i j : Nat} (h : Bef ops i j) : ∀ (pre post : List Nat), l = pre ++ j :: post → i ∈ pre := by
  induction h with
  | edge ho he hb => intro pre post hl; exact ht.dep pre _ post _ hl ho _ he hb
  | @trans i j o e ho he hb h ih =>
    intro pre post hl
    have hm := ht.dep pre _ post _ hl ho _ he hb
    obtain ⟨p1, p2, rfl⟩ := List.append_of_mem hm
    exact List.mem_append_left _ (ih p1 (p2 ++ j :: post) (by rw [hl]; simp))

theorem Topo.notBefore {ops : Array Oper} {l : List Nat} (ht : Topo ops l) {i j : Nat} (h : Bef ops i j) (hs : [j, i].Sublist l) : False := by
  have hj : j ∈ l := hs.subset (by simp)
  obtain ⟨pre, post, hl⟩ := List.append_of_mem hj
  have hi := ht.bef h pre post hl
  have hnd := ht.nodup
  rw [hl] at hs hnd
  have hcount : (pre ++ j :: post).count i ≤ 1 := List.nodup_iff_count.1 hnd i
  have hjp : j ∉ pre := fun hx => by
    have := List.nodup_append.1 hnd
    exact this.2.2 j hx j (by simp) rfl
  have hs2 : [j, i].Sublist (j :: post) := by
    clear hl hi hcount hnd hj
    induction pre with
    | nil => exact hs
    | cons a pre ih =>
      have : j ≠ a := fun e => hjp (by simp [e])
      cases hs with
      | cons _ h => exact ih h (fun hx => hjp (by simp [hx]))
      | cons_cons => exact absurd rfl this
  have hip : i ∈ post := by
    cases hs2 with
    | cons _ h => exact h.subset (by simp)
    | cons_cons _ h => exact List.singleton_sublist.1 h
  exact (List.nodup_append.1 hnd).2.2 i hi i (by simp [hip]) rfl

theorem nodup_len : ∀ (l m : List Nat), l.Nodup → (∀ x ∈ l, x ∈ m) → l.length ≤ m.length := by
  intro l
  induction l with
  | nil => intro m _ _; exact Nat.zero_le _
  | cons x l ih =>
    intro m hn hs
    have hx := hs x (by simp)
    have h1 := ih (m.erase x) (List.nodup_cons.1 hn).2 fun y hy => (List.mem_erase_of_ne (show y ≠ x from fun e => (List.nodup_cons.1 hn).1 (by rw [← e]; exact hy))).2 (hs y (by simp [hy]))
    rw [List.length_erase_of_mem hx] at h1
    have := List.length_pos_of_mem hx
    simp; omega

/-- all binding edges lead to operations that stand ahead -/
def edgesDown (ops : Array Oper) : Bool :=
  (List.range ops.size).all fun j => match ops[j]? with
    | some o => o.after.toList.all fun e => !bindsA e || decide (e.on < j)
    | none => true

theorem edgesDown_iff {ops : Array Oper} (h : edgesDown ops = true) {j : Nat} {o : Oper} (ho : ops[j]? = some o) {e : Edge} (he : e ∈ o.after.toList) (hb : bindsA e = true) : e.on < j := by
  have hj : j < ops.size := (Array.getElem?_eq_some_iff.1 ho).1
  have := List.all_eq_true.1 h j (List.mem_range.2 hj)
  simp only [ho] at this
  have := List.all_eq_true.1 this e he
  simpa [hb] using this

theorem linearise_go {ops : Array Oper} (hd : edgesDown ops = true) : ∀ (fuel t : Nat) (listed : Array Bool) (acc : List Nat), listed.size = ops.size → (∀ i, listed.getD i false = true ↔ i ∈ acc) → Topo ops acc.reverse → fuel + acc.length = ops.size →
    Topo ops (Region.linearise.go .any ops fuel t listed acc) ∧ (Region.linearise.go .any ops fuel t listed acc).length = ops.size := by
  intro fuel
  induction fuel with
  | zero =>
    intro t listed acc hs hl ht hf
    rw [Region.linearise.go]
    exact ⟨ht, by simpa using hf⟩
  | succ fuel ih =>
    intro t listed acc hs hl ht hf
    rw [Region.linearise.go]
    generalize hrs : ((List.range ops.size).filter fun i => !listed.getD i true && ((ops[i]?).map (·.after.all fun e => !Region.binds .any e || listed.getD e.on false)).getD false) = rs
    have hmem : ∀ x, x ∈ rs ↔ x < ops.size ∧ x ∉ acc ∧ ∃ o, ops[x]? = some o ∧ ∀ e ∈ o.after.toList, bindsA e = true → e.on ∈ acc := by
      intro x
      rw [← hrs, List.mem_filter, List.mem_range]
      constructor
      · rintro ⟨h1, h2⟩
        simp only [Bool.and_eq_true] at h2
        have ho : ops[x]? = some ops[x] := by simp [h1]
        refine ⟨h1, ?_, ops[x], ho, ?_⟩
        · intro hx
          have := (hl x).2 hx
          have h3 : listed.getD x true = true := by
            rw [Array.getD_eq_getD_getElem?] at this ⊢
            have : x < listed.size := by omega
            simp_all
          simp [h3] at h2
        · intro e he hb
          rw [ho] at h2
          simp only [Option.map_some, Option.getD_some] at h2
          have := Array.all_eq_true'.1 h2.2 e (by simpa using he)
          simp only [Bool.or_eq_true, Bool.not_eq_true'] at this
          rcases this with h4 | h4
          · unfold bindsA at hb; rw [hb] at h4; cases h4
          · exact (hl _).1 h4
      · rintro ⟨h1, h2, o, ho, h3⟩
        refine ⟨h1, ?_⟩
        simp only [Bool.and_eq_true, ho, Option.map_some, Option.getD_some]
        refine ⟨?_, ?_⟩
        · have : ¬ listed.getD x false = true := fun h => h2 ((hl x).1 h)
          rw [Array.getD_eq_getD_getElem?] at this ⊢
          have hx : x < listed.size := by omega
          simp_all
        · refine Array.all_eq_true'.2 fun e he => ?_
          simp only [Bool.or_eq_true, Bool.not_eq_true']
          by_cases hb : bindsA e = true
          · exact .inr ((hl _).2 (h3 e (by simpa using he) hb))
          · left; unfold bindsA at hb; simpa using hb
    have hne : rs ≠ [] := by
      -- the least operation that is not listed yet is ready
      have hex : ∃ x, x < ops.size ∧ x ∉ acc := by
        apply Classical.byContradiction
        intro hno
        have hall : ∀ x, x < ops.size → x ∈ acc := fun x hx => Classical.byContradiction fun hn => hno ⟨x, hx, hn⟩
        have := nodup_len (List.range ops.size) acc List.nodup_range fun x hx => hall x (List.mem_range.1 hx)
        simp at this
        omega
      obtain ⟨x, ⟨hx1, hx2⟩, hmin⟩ := least hex
      intro hnil
      have : x ∈ rs := (hmem x).2 ⟨hx1, hx2, ops[x], by simp [hx1], fun e he hb => by
        have hlt := edgesDown_iff hd (j := x) (o := ops[x]) (by simp [hx1]) he hb
        apply Classical.byContradiction
        intro hna
        have := hmin e.on ⟨by omega, hna⟩
        omega⟩
      rw [hnil] at this; cases this
    have hpos : 0 < rs.length := List.length_pos_iff.2 hne
    have hget : rs[t % rs.length]? = some (rs[t % rs.length]'(Nat.mod_lt _ hpos)) := by simp [Nat.mod_lt _ hpos]
    rw [hget]
    dsimp only
    generalize hxx : rs[t % rs.length]'(Nat.mod_lt _ hpos) = x
    have hxr : x ∈ rs := by rw [← hxx]; exact List.getElem_mem _
    obtain ⟨h1, h2, o, ho, h3⟩ := (hmem x).1 hxr
    refine ih _ _ _ (by simp [hs]) (fun i => ?_) ?_ (by simp; omega)
    · rw [Array.getD_eq_getD_getElem?, Array.getElem?_setIfInBounds]
      by_cases e : x = i
      · subst e; simp [hs, h1]
      · rw [if_neg e, ← Array.getD_eq_getD_getElem?, hl i]; simp [Ne.symm e]
    · rw [List.reverse_cons]
      refine ⟨fun i hi => ?_, ?_, ?_⟩
      · simp only [List.mem_append, List.mem_singleton] at hi
        rcases hi with hi | rfl
        · exact ht.lt i hi
        · exact h1
      · rw [List.nodup_append]
        refine ⟨ht.nodup, by simp, fun a ha b hb => ?_⟩
        simp at ha hb
        subst hb
        exact fun e => h2 (e ▸ ha)
      · intro pre y post p hl' hp e he hb
        rcases List.eq_nil_or_concat post with rfl | ⟨post', z, rfl⟩
        · have := List.append_inj' hl' rfl
          obtain ⟨rfl, hy⟩ := this
          simp at hy
          subst hy
          rw [ho] at hp; cases hp
          simpa using h3 e he hb
        · have : acc.reverse ++ [x] = (pre ++ y :: post') ++ [z] := by rw [hl']; simp
          have := List.append_inj' this rfl
          exact ht.dep pre y post' p this.1 hp e he hb

theorem linearise_topo {ops : Array Oper} (hd : edgesDown ops = true) (t : Nat) : Topo ops (Region.linearise .any ops t) ∧ (Region.linearise .any ops t).length = ops.size := by
  unfold Region.linearise
  refine linearise_go hd _ _ _ _ (by simp) (fun i => ?_) ⟨by simp, by simp, ?_⟩ (by simp)
  · rw [Array.getD_eq_getD_getElem?, Array.getElem?_replicate]; split <;> simp
  · intro pre x post o hl; simp at hl

theorem Topo.perm {ops : Array Oper} {l : List Nat} (ht : Topo ops l) (hl : l.length = ops.size) : l.Perm (List.range ops.size) := by
  rw [List.perm_iff_count]
  intro a
  have hm : a ∈ l ↔ a ∈ List.range ops.size := by
    refine ⟨fun h => List.mem_range.2 (ht.lt a h), fun h => Classical.byContradiction fun hn => ?_⟩
    have := nodup_len (a :: l) (List.range ops.size) (List.nodup_cons.2 ⟨hn, ht.nodup⟩) (fun x hx => by
      rcases List.mem_cons.1 hx with rfl | hx
      · exact h
      · exact List.mem_range.2 (ht.lt x hx))
    simp at this; omega
  rw [ht.nodup.count, List.nodup_range.count]
  simp only [hm]

/-! ### which operations stand ahead of which -/
def masksGo : List Oper → List Nat → List Nat
  | [], acc => acc
  | o :: os, acc => masksGo os (acc ++ [o.after.toList.foldl (fun m e => if bindsA e then m ||| (acc.getD e.on 0 ||| (1 <<< e.on)) else m) 0])
def masks (ops : Array Oper) : List Nat := masksGo ops.toList []

theorem fold_bit (acc : List Nat) (i : Nat) : ∀ (l : List Edge) (m : Nat), (l.foldl (fun m e => if bindsA e then m ||| (acc.getD e.on 0 ||| (1 <<< e.on)) else m) m).testBit i = true →
    m.testBit i = true ∨ ∃ e ∈ l, bindsA e = true ∧ ((acc.getD e.on 0).testBit i = true ∨ e.on = i) := by
  intro l
  induction l with
  | nil => intro m h; exact .inl h
  | cons e l ih =>
    intro m h
    rw [List.foldl_cons] at h
    rcases ih _ h with h | ⟨e', he', hb, hx⟩
    · split at h
      · next hb =>
        rw [Nat.testBit_or, Nat.testBit_or, Bool.or_eq_true, Bool.or_eq_true] at h
        rcases h with h | h | h
        · exact .inl h
        · exact .inr ⟨e, by simp, hb, .inl h⟩
        · refine .inr ⟨e, by simp, hb, .inr ?_⟩
          rw [Nat.one_shiftLeft, Nat.testBit_two_pow] at h
          simpa using h
      · exact .inl h
    · exact .inr ⟨e', by simp [he'], hb, hx⟩

theorem masksGo_sound (ops : Array Oper) : ∀ (os : List Oper) (acc : List Nat), (∀ k, os[k]? = ops[acc.length + k]?) → (∀ j i, (acc.getD j 0).testBit i = true → Bef ops i j) → ∀ j i, ((masksGo os acc).getD j 0).testBit i = true → Bef ops i j := by
  intro os
  induction os with
  | nil => intro acc _ h; exact h
  | cons o os ih =>
    intro acc hos h
    refine ih _ (fun k => by have := hos (k + 1); rw [List.getElem?_cons_succ] at this; rw [this]; congr 1; simp; omega) fun j i hji => ?_
    by_cases hj : j < acc.length
    · refine h j i ?_
      rw [List.getD_eq_getElem?_getD, List.getElem?_append_left hj, ← List.getD_eq_getElem?_getD] at hji
      exact hji
    · by_cases hj2 : j = acc.length
      · subst hj2
        have ho : ops[acc.length]? = some o := by have := hos 0; simpa using this.symm
        rw [List.getD_eq_getElem?_getD, List.getElem?_append_right (Nat.le_refl _), Nat.sub_self] at hji
        simp only [List.getElem?_cons_zero, Option.getD_some] at hji
        rcases fold_bit acc i _ _ hji with hz | ⟨e, he, hb, hx⟩
        · simp at hz
        · rcases hx with hx | rfl
          · exact .trans ho he hb (h _ _ hx)
          · exact .edge ho he hb
      · rw [List.getD_eq_getElem?_getD, List.getElem?_eq_none (by simp; omega)] at hji
        simp at hji

theorem masks_sound (ops : Array Oper) {j i : Nat} (h : ((masks ops).getD j 0).testBit i = true) : Bef ops i j :=
  masksGo_sound ops ops.toList [] (fun k => by simp) (fun j i h => by simp at h) j i h

/-- the look at a region: everything that is not ordered by edges may change places -/
def okD (ops : Array Oper) (ds : List Dyn) : Bool :=
  edgesDown ops && ((List.range ops.size).all fun j => (List.range j).all fun i => ((masks ops).getD j 0).testBit i || indep ops i (ds.getD i ⟨[], [], [], true⟩) j (ds.getD j ⟨[], [], [], true⟩))
end Go.Proofs.Ytmihhkcbbdpnaaa.Abs
