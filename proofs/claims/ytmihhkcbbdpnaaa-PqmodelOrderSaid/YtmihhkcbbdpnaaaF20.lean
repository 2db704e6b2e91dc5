/- The law that an event leaves once: plain. -/
import Derived.Test.YtmihhkcbbdpnaaaF16
namespace Go.Proofs.Ytmihhkcbbdpnaaa.Abs
open Go.Proofs
set_option maxRecDepth 10000
set_option linter.unusedSimpArgs false
set_option linter.unusedVariables false

def toEvt (e : Ent) : Evt := ⟨e.time, e.handle⟩
theorem batchL_char (b x : Int) : ∀ (l : List Ent) (out : List Evt), ∃ p, p ≤ l.length ∧ (batchL b x l out).1 = l.drop p ∧ (batchL b x l out).2 = out ++ ((l.take p).filter fun e => !e.dead).map toEvt ∧ (∀ e ∈ l.take p, e.time < b) ∧
    (∀ e, l[p]? = some e → ¬ (e.time < b ∧ ((batchL b x l out).2.length : Int) < x))
  | [], out => ⟨0, by simp, rfl, by simp [batchL], by simp, by simp⟩
  | e :: l, out => by
    rw [batchL]
    split
    · next h =>
      obtain ⟨p, h1, h2, h3, h4, h5⟩ := batchL_char b x l (if e.dead then out else out ++ [⟨e.time, e.handle⟩])
      refine ⟨p + 1, by simpa using h1, by simpa using h2, ?_, ?_, ?_⟩
      · rw [h3]
        cases hd : e.dead <;> simp [hd, toEvt]
      · intro y hy
        rw [List.take_succ_cons] at hy
        rcases List.mem_cons.1 hy with rfl | hy
        · exact h.1
        · exact h4 y hy
      · intro y hy
        exact h5 y (by simpa using hy)
    · next h =>
      refine ⟨0, by simp, rfl, by simp, by simp, ?_⟩
      intro y hy
      simp at hy
      subst hy
      exact h
/-- these handles are gone: issued, and no live entry bears them -/
def Gone (g : List Int) (m : Mod) : Prop := ∀ h ∈ g, h ∈ m.iss ∧ ∀ e ∈ m.ents, e.handle = h → e.dead = true
def goneOf (c : Cal) (r : Res) : List Int := (if r.canc then [c.handle] else []) ++ r.evs.map Evt.handle
theorem nodup_eq {l : List Ent} (h : (l.map Ent.handle).Nodup) {x y : Ent} (hx : x ∈ l) (hy : y ∈ l) (e : x.handle = y.handle) : x = y := by
  obtain ⟨i, hi⟩ := List.getElem?_of_mem hx
  obtain ⟨j, hj⟩ := List.getElem?_of_mem hy
  obtain ⟨h1, rfl⟩ := List.getElem?_eq_some_iff.1 hi
  obtain ⟨h2, rfl⟩ := List.getElem?_eq_some_iff.1 hj
  have := (List.getElem_inj (xs := l.map Ent.handle) (i := i) (j := j) (h₀ := by simpa using h1) (h₁ := by simpa using h2) h).1 (by simpa using e)
  subst this; rfl
theorem batch_evs {m : Mod} (hm : m.Ok) (c : Cal) : (∀ ev ∈ (batchM m c).2.evs, ∃ e ∈ m.ents, e.dead = false ∧ e.handle = ev.handle ∧ ∀ y ∈ (batchM m c).1.ents, y.handle ≠ e.handle) ∧ (∀ y ∈ (batchM m c).1.ents, y ∈ m.ents) ∧ (batchM m c).1.iss = m.iss := by
  unfold batchM
  split
  · exact ⟨by simp [Res.er], fun y hy => hy, rfl⟩
  obtain ⟨p, h1, h2, h3, h4, h5⟩ := batchL_char c.bound c.max m.ents []
  dsimp only
  rw [h2, h3]
  refine ⟨fun ev hev => ?_, fun y hy => List.mem_of_mem_drop hy, rfl⟩
  rw [List.nil_append] at hev
  obtain ⟨e, he, rfl⟩ := List.mem_map.1 hev
  obtain ⟨he1, he2⟩ := List.mem_filter.1 he
  refine ⟨e, List.mem_of_mem_take he1, by simpa using he2, rfl, fun y hy hh => ?_⟩
  have hn := hm.hands
  rw [← List.take_append_drop p m.ents, List.map_append, List.nodup_append] at hn
  exact hn.2.2 e.handle (List.mem_map.2 ⟨e, he1, rfl⟩) y.handle (List.mem_map.2 ⟨y, hy, rfl⟩) hh.symm
theorem cancel_facts {m : Mod} (hm : m.Ok) (c : Cal) : ((cancelM m c).2.canc = true → ∃ e ∈ m.ents, e.dead = false ∧ e.handle = c.handle) ∧ ((cancelM m c).2.canc = true → ∀ e ∈ (cancelM m c).1.ents, e.handle = c.handle → e.dead = true) ∧
    (∀ y ∈ (cancelM m c).1.ents, ∃ e ∈ m.ents, e.handle = y.handle ∧ (e.dead = true → y.dead = true)) ∧ (cancelM m c).1.iss = m.iss ∧ (cancelM m c).2.evs = [] := by
  unfold cancelM
  split
  · next i hi =>
    obtain ⟨hl, h1, _⟩ := List.findIdx?_eq_some_iff_getElem.1 hi
    have h1 : m.ents[i].handle = c.handle ∧ m.ents[i].dead = false := by simpa [isH] using h1
    have hmem : m.ents[i] ∈ m.ents := List.getElem_mem hl
    have key : ∀ y ∈ m.ents.modify i fun e => { e with dead := true }, (∃ e ∈ m.ents, e ≠ m.ents[i] ∧ y = e) ∨ y = { m.ents[i] with dead := true } := by
      intro y hy
      obtain ⟨j, hj⟩ := List.getElem?_of_mem hy
      rw [List.getElem?_modify] at hj
      by_cases e : i = j
      · subst e
        simp only [if_true, List.getElem?_eq_getElem hl] at hj
        exact .inr (Option.some.inj hj).symm
      · simp only [e, if_false, Option.map_id'] at hj
        obtain ⟨hjl, rfl⟩ := List.getElem?_eq_some_iff.1 (by simpa using hj)
        refine .inl ⟨m.ents[j], List.getElem_mem hjl, fun hh => e ?_, rfl⟩
        have := congrArg Ent.handle hh
        exact ((List.getElem_inj (xs := m.ents.map Ent.handle) (i := j) (j := i) (h₀ := by simpa using hjl) (h₁ := by simpa using hl) hm.hands).1 (by simpa using this)).symm
    refine ⟨fun _ => ⟨m.ents[i], hmem, h1.2, h1.1⟩, fun _ y hy hh => ?_, fun y hy => ?_, rfl, rfl⟩
    · rcases key y hy with ⟨e, he, hne, rfl⟩ | rfl
      · exact absurd (nodup_eq hm.hands he hmem (hh.trans h1.1.symm)) hne
      · rfl
    · rcases key y hy with ⟨e, he, hne, rfl⟩ | rfl
      · exact ⟨y, he, rfl, fun h => h⟩
      · exact ⟨m.ents[i], hmem, rfl, fun _ => rfl⟩
  · exact ⟨by simp [Res.er], by simp [Res.er], fun y hy => ⟨y, hy, rfl, fun h => h⟩, rfl, rfl⟩
theorem gone_first {m : Mod} (hm : m.Ok) (c : Cal) (x : Int) : Gone (goneOf c (doM m c x).2) (doM m c x).1 := by
  unfold doM
  split
  · have : (insertM m c x).2.canc = false ∧ (insertM m c x).2.evs = [] := by
      unfold insertM; repeat' split
      all_goals simp [Res.er]
    intro h hh
    simp [goneOf, this.1, this.2] at hh
  split
  · obtain ⟨f1, f2, f3, f4, f5⟩ := cancel_facts hm c
    intro h hh
    rw [goneOf, f5] at hh
    split at hh
    · next hc =>
      simp at hh
      subst hh
      obtain ⟨e, he, _, hh⟩ := f1 hc
      exact ⟨by rw [f4, ← hh]; exact (hm.ent e he).h, f2 hc⟩
    · simp at hh
  split
  · obtain ⟨f1, f2, f3⟩ := batch_evs hm c
    have hc : (batchM m c).2.canc = false := by unfold batchM; split <;> rfl
    intro h hh
    simp only [goneOf, hc, Bool.false_eq_true, if_false, List.nil_append] at hh
    obtain ⟨ev, hev, rfl⟩ := List.mem_map.1 hh
    obtain ⟨e, he, _, he2, he3⟩ := f1 ev hev
    exact ⟨by rw [f3, ← he2]; exact (hm.ent e he).h, fun y hy hyh => absurd (hyh.trans he2.symm) (he3 y hy)⟩
  · intro h hh
    simp [goneOf, Res.er] at hh
theorem gone_step {m : Mod} (hm : m.Ok) {g : List Int} (hg : Gone g m) (c : Cal) (x : Int) : Gone g (doM m c x).1 ∧ ((doM m c x).2.err = 0 → c.kind = 1 → (doM m c x).2.handle ∉ g) ∧ ((doM m c x).2.canc = true → c.handle ∉ g) ∧ ∀ ev ∈ (doM m c x).2.evs, ev.handle ∉ g := by
  unfold doM
  split
  · next hk =>
    unfold insertM
    split
    · exact ⟨hg, by simp [Res.er], by simp [Res.er], by simp [Res.er]⟩
    split
    · exact ⟨hg, by simp [Res.er], by simp [Res.er], by simp [Res.er]⟩
    split
    · exact ⟨hg, by simp [Res.er], by simp [Res.er], by simp [Res.er]⟩
    next h1 h2 h3 =>
    simp only [not_or, Classical.not_not] at h3
    refine ⟨fun h hh => ⟨List.mem_append_left _ (hg h hh).1, fun e he heh => ?_⟩, fun _ _ hx => h3.2 (hg _ hx).1, by simp, by simp⟩
    rcases List.mem_cons.1 ((insL_perm _ _).mem_iff.1 he) with rfl | he
    · dsimp only at heh; subst heh; exact absurd (hg _ hh).1 h3.2
    · exact (hg h hh).2 e he heh
  next hk1 =>
  split
  · obtain ⟨f1, f2, f3, f4, f5⟩ := cancel_facts hm c
    refine ⟨fun h hh => ⟨by rw [f4]; exact (hg h hh).1, fun y hy hyh => ?_⟩, fun _ e => absurd e hk1, fun hc hh => ?_, by rw [f5]; simp⟩
    · obtain ⟨e, he, e1, e2⟩ := f3 y hy
      exact e2 ((hg h hh).2 e he (e1.trans hyh))
    · obtain ⟨e, he, e1, e2⟩ := f1 hc
      have := (hg _ hh).2 e he e2
      rw [e1] at this; cases this
  split
  · obtain ⟨f1, f2, f3⟩ := batch_evs hm c
    have hc : (batchM m c).2.canc = false := by unfold batchM; split <;> rfl
    refine ⟨fun h hh => ⟨by rw [f3]; exact (hg h hh).1, fun y hy hyh => (hg h hh).2 y (f2 y hy) hyh⟩, fun _ e => absurd e hk1, by simp [hc], fun ev hev hh => ?_⟩
    obtain ⟨e, he, e1, e2, _⟩ := f1 ev hev
    have := (hg _ hh).2 e he e2
    rw [e1] at this; cases this
  · exact ⟨hg, by simp [Res.er], by simp [Res.er], by simp [Res.er]⟩
end Go.Proofs.Ytmihhkcbbdpnaaa.Abs
