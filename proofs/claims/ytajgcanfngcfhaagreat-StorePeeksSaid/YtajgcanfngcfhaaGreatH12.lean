/- Plain law of the store: allocating, putting, dropping and freeing. -/
import Derived.Test.YtajgcanfngcfhaaGreatH11
namespace Go.Proofs.YtajgcanfngcfhaaGreat.Abs
set_option linter.unusedSimpArgs false
set_option linter.unusedVariables false
theorem item_inj {s : Sto} {i j : Nat} (h : s.item i = s.item j) : i = j := by
  have := congrArg Item.slot h
  have e : (i : Int) = (j : Int) := this
  omega
theorem SOk.srt {n : Nat} {s : Sto} {S : List Item} {A : Nat → Prop} {K : Nat} (h : SOk n s S A K) : S.Pairwise Bf := by
  obtain ⟨k, hk, hq⟩ := h.q
  exact hq.rel.srt
theorem SOk.head_out {n : Nat} {s : Sto} {x : Item} {T : List Item} {A : Nat → Prop} {K : Nat} (h : SOk n s (x :: T) A K) : x ∉ T := fun hx => by
  have := (List.pairwise_cons.1 h.srt).1 x hx
  exact Bf.irrefl x this
theorem SOk.drop {n : Nat} {s : Sto} {x : Item} {T : List Item} {A : Nat → Prop} {K : Nat} (h : SOk n s (x :: T) A K) (th : Int) : ∃ i, i < n ∧ x = s.item i ∧ s.st i ≠ 0 ∧ ¬ A i ∧ SOk n (s.take th (popG s.q).1) T (fun j => A j ∨ j = i) K := by
  have h1 := h.touch th [0, 1, 2]
  obtain ⟨i, hi, hx, hl, hA⟩ := h.itm x List.mem_cons_self
  obtain ⟨k, hk, hq⟩ := h.q
  have hout := h.head_out
  refine ⟨i, hi, hx, hl, hA, h1.queue th ⟨k, hk, (hq.first (by have := h.kb; omega)).2⟩ (fun y hy => ?_) (fun j hj hlj => ?_) (fun j hj => ?_)⟩
  · obtain ⟨j, a1, a2, a3, a4⟩ := h1.itm y (List.mem_cons_of_mem _ hy)
    refine ⟨j, a1, a2, a3, fun c => c.elim a4 fun e => hout ?_⟩
    subst e
    have e : x = y := hx.trans a2.symm
    rw [e]; exact hy
  · rcases h1.all j hj hlj with a | a
    · exact .inl (.inl a)
    · rcases List.mem_cons.1 a with e | a
      · exact .inl (.inr (item_inj (s := s) (e.trans hx)))
      · exact .inr a
  · rcases hj with a | a
    · exact h1.hand j a
    · rw [a]
      obtain ⟨m, b1, b2, b3, b4⟩ := h1.itm x List.mem_cons_self
      have e : i = m := item_inj (s := s) (hx.symm.trans b2)
      rw [e]; exact ⟨b1, b3⟩
/-- the last idle slot -/
theorem SOk.last {n : Nat} {s : Sto} {S : List Item} {A : Nat → Prop} {K : Nat} (h : SOk n s S A K) : s.idle = [] ∨ ∃ l i, s.idle = l ++ [((i : Nat) : Int)] ∧ i < n ∧ s.st i = 0 ∧ (i : Int) ∉ l := by
  rcases List.eq_nil_or_concat s.idle with e | ⟨l, x, e⟩
  · exact .inl e
  · rw [List.concat_eq_append] at e
    have hx := h.idl x (by rw [e]; simp)
    obtain ⟨i, rfl⟩ := Int.eq_ofNat_of_zero_le hx.1
    have hn := h.idn
    rw [e] at hn
    refine .inr ⟨l, i, e, by omega, (h.fr i (by omega)).1 (by rw [e]; simp), ?_⟩
    have := (List.nodup_append.1 hn).2.2
    exact fun hl => this _ hl _ (by simp) rfl
theorem SOk.alloc {n : Nat} {s : Sto} {S : List Item} {A : Nat → Prop} {K : Nat} (h : SOk n s S A K) (th t : Int) (ht : 0 ≤ t ∧ t ≤ 1152921504606846976) {l : List Int} {i : Nat} (hid : s.idle = l ++ [(i : Int)]) (hi : i < n) (hK : K + 1 ≤ 20000) :
    SOk n (s.alloc1 th t l i) S (fun j => A j ∨ j = i) (K + 1) ∧ s.st i = 0 ∧ (s.alloc1 th t l i).st i = 1 ∧ (s.alloc1 th t l i).gn i = s.gn i := by
  have hwl : i + 1 < s.m.words.length := by rw [h.nw]; omega
  have hsl : i < s.slots.length := by rw [h.ns]; omega
  have h0 : s.st i = 0 := (h.fr i hi).1 (by rw [hid]; simp)
  have hw0 := (h.wd i hi).1
  have ew : ∀ j, (s.alloc1 th t l i).m.word j = if j = i + 1 then 4 * (s.m.word (i + 1) / 4) + 1 else s.m.word j := fun j => Mem.word_put _ _ _ _ _ _ _ hwl
  have es : ∀ j, (s.alloc1 th t l i).slot j = if j = i then ⟨0, 0, t, s.next⟩ else s.slot j := fun j => Sto.slot_set s i _ j hsl
  have e2 : ∀ j, (s.alloc1 th t l i).st j = if j = i then 1 else s.st j := fun j => by
    unfold Sto.st; rw [ew]
    by_cases c : j = i
    · rw [if_pos c, if_pos (by omega)]; omega
    · rw [if_neg c, if_neg (by omega)]
  have e3 : ∀ j, (s.alloc1 th t l i).gn j = s.gn j := fun j => by
    unfold Sto.gn; rw [ew]
    by_cases c : j = i
    · subst c; rw [if_pos rfl]; omega
    · rw [if_neg (by omega)]
  have ei : ∀ j, j ≠ i → (s.alloc1 th t l i).item j = s.item j := fun j hj => by unfold Sto.item; rw [es, if_neg hj]
  have hn := h.idn
  rw [hid] at hn
  have hnl : (i : Int) ∉ l := fun hl => (List.nodup_append.1 hn).2.2 _ hl _ (by simp) rfl
  have hnx := h.nx
  refine ⟨⟨by show (s.m.words.set _ _).length = _; rw [List.length_set]; exact h.nw, h.nm, by show (s.slots.set _ _).length = _; rw [List.length_set]; exact h.ns, h.n12, hK, by rw [ew, if_neg (by omega)]; exact h.top, (List.nodup_append.1 hn).1, fun x hx => h.idl x (by rw [hid]; exact List.mem_append_left _ hx), fun j hj => ?_, fun j hj => ?_, fun j hj => ?_, fun j hj hz => ?_, fun j hj hz => ?_, fun a b ha hb hla hlb hab => ?_, by show 0 ≤ s.next + 1 ∧ s.next + 1 ≤ _; push_cast; omega, ?_, fun x hx => ?_, fun j hj hz => ?_, fun j hj => ?_⟩, h0, by rw [e2, if_pos rfl], e3 i⟩
  · rw [e3, ew]
    refine ⟨?_, by have := (h.wd j hj).2; push_cast; omega⟩
    by_cases c : j + 1 = i + 1
    · rw [if_pos c]; omega
    · rw [if_neg c]; exact (h.wd j hj).1
  · show (j : Int) ∈ l ↔ _
    rw [e2]
    by_cases c : j = i
    · subst c; rw [if_pos rfl]; exact ⟨fun x => absurd x hnl, fun x => by omega⟩
    · rw [if_neg c, ← h.fr j hj, hid]
      simp only [List.mem_append, List.mem_singleton]
      exact ⟨fun x => .inl x, fun x => x.elim id fun e => absurd (by omega) c⟩
  · rw [es]
    by_cases c : j = i
    · rw [if_pos c]; exact ⟨rfl, rfl⟩
    · rw [if_neg c]; exact h.sl j hj
  · rw [e2] at hz
    rw [es]
    by_cases c : j = i
    · rw [if_pos c] at hz; omega
    · rw [if_neg c] at hz ⊢; exact h.sf j hj hz
  · rw [e2] at hz
    rw [es]
    show _ ∧ _ ∧ _ < s.next + 1
    by_cases c : j = i
    · rw [if_pos c]; exact ⟨ht, hnx.1, by dsimp only; omega⟩
    · rw [if_neg c] at hz ⊢
      have := h.tm j hj hz
      exact ⟨this.1, this.2.1, by omega⟩
  · rw [e2] at hla hlb
    rw [es, es] at hab
    by_cases c : a = i
    · by_cases d : b = i
      · omega
      · rw [if_pos c, if_neg d] at hab
        rw [if_neg d] at hlb
        have := (h.tm b hb hlb).2.2
        dsimp only at hab; omega
    · by_cases d : b = i
      · rw [if_neg c, if_pos d] at hab
        rw [if_neg c] at hla
        have := (h.tm a ha hla).2.2
        dsimp only at hab; omega
      · rw [if_neg c, if_neg d] at hab
        rw [if_neg c] at hla
        rw [if_neg d] at hlb
        exact h.sq a b ha hb hla hlb hab
  · obtain ⟨k, hk, hq⟩ := h.q
    exact ⟨k, by omega, hq.mono (by show s.next ≤ s.next + 1; omega)⟩
  · obtain ⟨j, a1, a2, a3, a4⟩ := h.itm x hx
    have c : j ≠ i := fun e => a3 (by rw [e]; exact h0)
    exact ⟨j, a1, by rw [ei j c]; exact a2, by rw [e2, if_neg c]; exact a3, fun x => x.elim a4 c⟩
  · rw [e2] at hz
    by_cases c : j = i
    · exact .inl (.inr c)
    · rw [if_neg c] at hz
      rw [ei j c]
      exact (h.all j hj hz).elim (fun a => .inl (.inl a)) .inr
  · rcases hj with a | a
    · have := h.hand j a
      have c : j ≠ i := fun e => this.2 (by rw [e]; exact h0)
      exact ⟨this.1, by rw [e2, if_neg c]; exact this.2⟩
    · subst a; exact ⟨hi, by rw [e2, if_pos rfl]; omega⟩
theorem SOk.put {n : Nat} {s : Sto} {S : List Item} {A : Nat → Prop} {K : Nat} (h : SOk n s S A K) (th : Int) {i : Nat} (ha : A i) (hK : K + 1 ≤ 20000) :
    SOk n (s.put th i) (insI S (s.item i)) (fun j => A j ∧ j ≠ i) (K + 1) ∧ PSpec Tryz.prog 95 [s.q.v, (s.item i).v] ((insLad s.q (s.item i)).v) ∧ s.item i ∉ S := by
  obtain ⟨hi, hl⟩ := h.hand i ha
  obtain ⟨k, hk, hq⟩ := h.q
  have htm := h.tm i hi hl
  have hout : s.item i ∉ S := fun hx => by
    obtain ⟨j, a1, a2, a3, a4⟩ := h.itm _ hx
    have := item_inj a2
    subst this; exact a4 ha
  have hne : ∀ x ∈ S, x.seq ≠ (s.item i).seq := fun x hx e => by
    obtain ⟨j, a1, a2, a3, a4⟩ := h.itm x hx
    subst a2
    have := h.sq j i a1 hi a3 hl e
    subst this; exact a4 ha
  have hins := hq.ins (it := s.item i) htm.1 htm.2 hne
  refine ⟨?_, hq.insC (by have := h.kb; omega) htm.1 hne, hout⟩
  have h1 := (h.touch th (s.putL (s.slot i).time)).mono (L := K + 1) (by omega) hK
  have hl1 : (s.touch th (s.putL (s.slot i).time)).st i ≠ 0 := (h1.hand i ha).2
  refine { h1 with q := ⟨k + 1, by omega, hins⟩, itm := ?_, all := ?_, hand := fun j hj => h1.hand j hj.1, top := ?_ }
  · have e : (insLad s.q (s.item i)).topStart = s.q.topStart := by unfold insLad; split; rfl; split <;> rfl
    show _ = (insLad s.q (s.item i)).topStart
    rw [e]; exact h1.top
  · intro x hx
    rcases insI_mem8.1 hx with rfl | hx
    · exact ⟨i, hi, rfl, hl1, fun c => c.2 rfl⟩
    · obtain ⟨j, a1, a2, a3, a4⟩ := h1.itm x hx
      exact ⟨j, a1, a2, a3, fun c => a4 c.1⟩
  · intro j hj hlj
    by_cases c : j = i
    · subst c; exact .inr (insI_mem8.2 (.inl rfl))
    · rcases h1.all j hj hlj with a | a
      · exact .inl ⟨a, c⟩
      · exact .inr (insI_mem8.2 (.inr a))
theorem SOk.free {n : Nat} {s : Sto} {S : List Item} {A : Nat → Prop} {K : Nat} (h : SOk n s S A K) (th : Int) {i : Nat} (ha : A i) (hK : K + 1 ≤ 20000) :
    SOk n (s.free1 th i) S (fun j => A j ∧ j ≠ i) (K + 1) ∧ (s.free1 th i).st i = 0 ∧ (s.free1 th i).gn i = s.gn i + 1 := by
  obtain ⟨hi, hl⟩ := h.hand i ha
  have hwl : i + 1 < s.m.words.length := by rw [h.nw]; omega
  have hsl : i < s.slots.length := by rw [h.ns]; omega
  have hw0 := (h.wd i hi).1
  have ew : ∀ j, (s.free1 th i).m.word j = if j = i + 1 then 4 * (s.m.word (i + 1) / 4 + 1) + 0 else s.m.word j := fun j => Mem.word_put _ _ _ _ _ _ _ hwl
  have es : ∀ j, (s.free1 th i).slot j = if j = i then ⟨0, 0, 0, 0⟩ else s.slot j := fun j => Sto.slot_set s i _ j hsl
  have e2 : ∀ j, (s.free1 th i).st j = if j = i then 0 else s.st j := fun j => by
    unfold Sto.st; rw [ew]
    by_cases c : j = i
    · rw [if_pos c, if_pos (by omega)]; omega
    · rw [if_neg c, if_neg (by omega)]
  have e3 : ∀ j, (s.free1 th i).gn j = if j = i then s.gn i + 1 else s.gn j := fun j => by
    unfold Sto.gn; rw [ew]
    by_cases c : j = i
    · rw [if_pos c, if_pos (by omega)]; omega
    · rw [if_neg c, if_neg (by omega)]
  have ei : ∀ j, j ≠ i → (s.free1 th i).item j = s.item j := fun j hj => by unfold Sto.item; rw [es, if_neg hj]
  have hni : (i : Int) ∉ s.idle := fun hx => hl ((h.fr i hi).1 hx)
  refine ⟨⟨by show (s.m.words.set _ _).length = _; rw [List.length_set]; exact h.nw, h.nm, by show (s.slots.set _ _).length = _; rw [List.length_set]; exact h.ns, h.n12, hK, by rw [ew, if_neg (by omega)]; exact h.top, ?_, fun x hx => ?_, fun j hj => ?_, fun j hj => ?_, fun j hj => ?_, fun j hj hz => ?_, fun j hj hz => ?_, fun a b ha hb hla hlb hab => ?_, by have := h.nx; show 0 ≤ s.next ∧ s.next ≤ _; push_cast; omega, ?_, fun x hx => ?_, fun j hj hz => ?_, fun j hj => ?_⟩, by rw [e2, if_pos rfl], by rw [e3, if_pos rfl]⟩
  · show (s.idle ++ [(i : Int)]).Nodup
    exact List.nodup_append.2 ⟨h.idn, by simp, fun a ha b hb e => by rw [List.mem_singleton] at hb; subst hb; subst e; exact hni ha⟩
  · rcases List.mem_append.1 hx with hx | hx
    · exact h.idl x hx
    · rw [List.mem_singleton] at hx; subst hx; omega
  · rw [e3, ew]
    have hwj := h.wd j hj
    by_cases c : j = i
    · subst c; rw [if_pos rfl, if_pos rfl]; push_cast; omega
    · rw [if_neg c, if_neg (by omega)]; push_cast; omega
  · show (j : Int) ∈ s.idle ++ [(i : Int)] ↔ _
    rw [e2]
    simp only [List.mem_append, List.mem_singleton]
    by_cases c : j = i
    · subst c; simp
    · rw [if_neg c, ← h.fr j hj]
      exact ⟨fun x => x.elim id fun e => absurd (by omega) c, .inl⟩
  · rw [es]
    by_cases c : j = i
    · rw [if_pos c]; exact ⟨rfl, rfl⟩
    · rw [if_neg c]; exact h.sl j hj
  · rw [e2] at hz
    rw [es]
    by_cases c : j = i
    · rw [if_pos c]; exact ⟨rfl, rfl⟩
    · rw [if_neg c] at hz ⊢; exact h.sf j hj hz
  · rw [e2] at hz
    rw [es]
    by_cases c : j = i
    · rw [if_pos c] at hz; exact absurd rfl hz
    · rw [if_neg c] at hz ⊢; exact h.tm j hj hz
  · rw [e2] at hla hlb
    rw [es, es] at hab
    by_cases c : a = i
    · rw [if_pos c] at hla; exact absurd rfl hla
    · by_cases d : b = i
      · rw [if_pos d] at hlb; exact absurd rfl hlb
      · rw [if_neg c, if_neg d] at hab
        rw [if_neg c] at hla
        rw [if_neg d] at hlb
        exact h.sq a b ha hb hla hlb hab
  · obtain ⟨k, hk, hq⟩ := h.q
    exact ⟨k, by omega, hq⟩
  · obtain ⟨j, a1, a2, a3, a4⟩ := h.itm x hx
    have c : j ≠ i := fun e => a4 (by rw [e]; exact ha)
    exact ⟨j, a1, by rw [ei j c]; exact a2, by rw [e2, if_neg c]; exact a3, fun x => a4 x.1⟩
  · rw [e2] at hz
    by_cases c : j = i
    · rw [if_pos c] at hz; exact absurd rfl hz
    · rw [if_neg c] at hz
      rw [ei j c]
      exact (h.all j hj hz).elim (fun a => .inl ⟨a, c⟩) .inr
  · have := h.hand j hj.1
    exact ⟨this.1, by rw [e2, if_neg hj.2]; exact this.2⟩
end Go.Proofs.YtajgcanfngcfhaaGreat.Abs
