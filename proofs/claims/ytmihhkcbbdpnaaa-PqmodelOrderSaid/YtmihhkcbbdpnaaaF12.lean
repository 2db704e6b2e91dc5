/- The plain law of the model: its calls keep it valid. -/
import Derived.Test.YtmihhkcbbdpnaaaF11
namespace Go.Proofs.Ytmihhkcbbdpnaaa.Abs
open Go.Proofs
set_option maxRecDepth 10000
set_option linter.unusedSimpArgs false
set_option linter.unusedVariables false

theorem cmpEnt_neg (x y : Ent) : cmpEnt x y < 0 ↔ x.time < y.time ∨ (x.time = y.time ∧ x.seq < y.seq) := by
  unfold cmpEnt or2 cmpI
  repeat' split
  all_goals omega
theorem Mod.Ok.ins {m : Mod} (hm : m.Ok) (c : Cal) (h : Int) : InsOk m c h := by
  have ht : ∀ x ∈ m.ents, (cmpEnt x ⟨c.time, m.next, h, false⟩ < 0 ↔ x.time ≤ c.time) := by
    intro x hx
    have := (hm.ent x hx).s1
    rw [cmpEnt_neg]
    dsimp only
    omega
  refine ⟨fun i j x y hij hx hy hc => ?_, ht, hm.len⟩
  have hxm := List.mem_of_getElem? hx
  have hym := List.mem_of_getElem? hy
  rw [ht y hym] at hc
  rw [ht x hxm]
  by_cases e : i = j
  · subst e; rw [hx] at hy; cases hy; exact hc
  · have hp := sortedE_pair.1 hm.sorted
    rw [List.pairwise_iff_getElem] at hp
    obtain ⟨h1, rfl⟩ := List.getElem?_eq_some_iff.1 hx
    obtain ⟨h2, rfl⟩ := List.getElem?_eq_some_iff.1 hy
    have := (leE_iff _ _).1 (hp i j h1 h2 (by omega))
    omega
theorem Mod.Ok.fits {m : Mod} (hm : m.Ok) (hi : m.iss.length < 1000000) : m.Fits :=
  ⟨by have := hm.len; have := hm.c1; omega, hi, hm.next⟩
theorem takeWhile_posE (l : List Ent) (e : Ent) : ∀ x ∈ l.take (posE l e), cmpEnt x e < 0 := by
  intro x hx
  have he : l.take (posE l e) = l.takeWhile fun x => decide (cmpEnt x e < 0) := by
    unfold posE
    exact (List.prefix_iff_eq_take.1 (List.takeWhile_prefix _)).symm
  rw [he] at hx
  clear he
  induction l with
  | nil => simp at hx
  | cons a l ih =>
    by_cases ha : cmpEnt a e < 0
    · simp only [List.takeWhile_cons, ha, decide_true, if_true, List.mem_cons] at hx
      rcases hx with rfl | hx
      · exact ha
      · exact ih hx
    · simp [ha] at hx
theorem drop_posE {l : List Ent} {e : Ent} (hm : MonoE l e) : ∀ x ∈ l.drop (posE l e), ¬ cmpEnt x e < 0 := by
  intro x hx hc
  obtain ⟨j, hj⟩ := List.getElem?_of_mem hx
  rw [List.getElem?_drop] at hj
  have hl := (List.getElem?_eq_some_iff.1 hj).1
  obtain ⟨y, hy⟩ := get_lt (show posE l e < l.length by omega)
  have hcy := hm (posE l e) (posE l e + j) y x (by omega) hy hj hc
  have : posE l e ≠ posE l e := by
    intro _
    have h1 : ∀ (l : List Ent) (k : Nat) (y : Ent), l[k]? = some y → (l.takeWhile fun x => decide (cmpEnt x e < 0)).length = k → ¬ cmpEnt y e < 0 := by
      intro l
      induction l with
      | nil => intro k y hy; simp at hy
      | cons a l ih =>
        intro k y hy hk hcy
        by_cases ha : cmpEnt a e < 0
        · simp only [List.takeWhile_cons, ha, decide_true, if_true, List.length_cons] at hk
          obtain ⟨k', rfl⟩ : ∃ k', k = k' + 1 := ⟨k - 1, by omega⟩
          exact ih k' y (by simpa using hy) (by omega) hcy
        · simp [ha] at hk
          subst hk
          simp at hy; subst hy; exact ha hcy
    exact h1 l _ y hy rfl hcy
  exact this rfl
theorem insL_perm (l : List Ent) (e : Ent) : (insL l e).Perm (e :: l) := by
  unfold insL
  have := (List.perm_middle (a := e) (l₁ := l.take (posE l e)) (l₂ := l.drop (posE l e)))
  rwa [List.take_append_drop] at this
theorem leE_of_neg {x e : Ent} (h : cmpEnt x e < 0) : leE x e := by rw [cmpEnt_neg] at h; rw [leE_iff]; omega
theorem insL_sorted {l : List Ent} {e : Ent} (hs : l.Pairwise leE) (hm : MonoE l e) : (insL l e).Pairwise leE := by
  unfold insL
  rw [List.pairwise_append, List.pairwise_cons]
  refine ⟨hs.sublist (List.take_sublist _ _), ⟨fun x hx => drop_posE hm x hx, hs.sublist (List.drop_sublist _ _)⟩, fun x hx y hy => ?_⟩
  have h1 := takeWhile_posE l e x hx
  rcases List.mem_cons.1 hy with rfl | hy
  · exact leE_of_neg h1
  · exact leE_trans (leE_of_neg h1) (drop_posE hm y hy)
theorem insertM_ok {m : Mod} (hm : m.Ok) (c : Cal) (h : Int) : (insertM m c h).1.Ok := by
  unfold insertM
  split
  · exact hm
  split
  · exact hm
  split
  · exact hm
  next h1 h2 h3 =>
  have hmo := (hm.ins c h).mono
  have hp := insL_perm m.ents ⟨c.time, m.next, h, false⟩
  simp only [not_or, Classical.not_not] at h1 h3
  have hnn : 0 ≤ m.next := by rw [hm.next]; omega
  have hl := hm.len
  refine ⟨hm.c0, hm.c1, ?_, ?_, ?_, ?_, ?_, ?_, ?_, ?_⟩
  · have := hp.length_eq
    simp only [List.length_cons] at this
    dsimp only; omega
  · simp [hm.next]
  · intro e he
    rcases List.mem_cons.1 (hp.mem_iff.1 he) with rfl | he
    · exact ⟨by dsimp only; omega, by dsimp only; omega, hnn, by dsimp only; omega, by simp⟩
    · have := hm.ent e he
      exact ⟨this.t0, this.t1, this.s0, by have := this.s1; dsimp only; omega, List.mem_append_left _ this.h⟩
  · intro x hx
    rcases List.mem_append.1 hx with hx | hx
    · exact hm.iss x hx
    · simp at hx; subst hx; exact h3.1
  · refine (hp.map Ent.seq).nodup_iff.2 ?_
    rw [List.map_cons, List.nodup_cons]
    refine ⟨fun hx => ?_, hm.seqs⟩
    obtain ⟨x, hx, e⟩ := List.mem_map.1 hx
    have := (hm.ent x hx).s1
    dsimp only at e; omega
  · refine (hp.map Ent.handle).nodup_iff.2 ?_
    rw [List.map_cons, List.nodup_cons]
    refine ⟨fun hx => ?_, hm.hands⟩
    obtain ⟨x, hx, e⟩ := List.mem_map.1 hx
    have := (hm.ent x hx).h
    dsimp only at e; rw [e] at this; exact h3.2 this
  · exact List.nodup_append.2 ⟨hm.issN, by simp, by rintro a ha b hb rfl; simp at hb; subst hb; exact h3.2 ha⟩
  · exact sortedE_pair.2 (insL_sorted (sortedE_pair.1 hm.sorted) hmo)
/-- what a cancelled entry keeps -/
theorem modify_map {β : Type} (l : List Ent) (i : Nat) (f : Ent → β) (hf : ∀ e, f { e with dead := true } = f e) : (l.modify i fun e => { e with dead := true }).map f = l.map f := by
  apply List.ext_getElem?
  intro j
  rw [List.getElem?_map, List.getElem?_map, List.getElem?_modify]
  by_cases h : i = j
  · subst h
    cases l[i]? with
    | none => simp
    | some x => simp [hf]
  · simp [h]
theorem leE_key {x y : Ent} : leE x y ↔ (fun p q : Int × Int => p.1 < q.1 ∨ (p.1 = q.1 ∧ p.2 ≤ q.2)) (x.time, x.seq) (y.time, y.seq) := leE_iff x y
theorem sorted_map (l : List Ent) : sortedE l = true ↔ (l.map fun e => (e.time, e.seq)).Pairwise fun p q : Int × Int => p.1 < q.1 ∨ (p.1 = q.1 ∧ p.2 ≤ q.2) := by
  rw [sortedE_pair, List.pairwise_map]
  constructor <;> intro h <;> refine h.imp ?_
  · intro a b; exact leE_key.1
  · intro a b; exact leE_key.2
theorem cancelM_ok {m : Mod} (hm : m.Ok) (c : Cal) : (cancelM m c).1.Ok := by
  unfold cancelM
  split
  · next i hi =>
    have hmem : ∀ e ∈ m.ents.modify i fun e => { e with dead := true }, ∃ e' ∈ m.ents, e.time = e'.time ∧ e.seq = e'.seq ∧ e.handle = e'.handle := by
      intro e he
      have : (e.time, e.seq, e.handle) ∈ (m.ents.modify i fun e => { e with dead := true }).map fun e => (e.time, e.seq, e.handle) := List.mem_map.2 ⟨e, he, rfl⟩
      rw [modify_map _ _ _ (fun _ => rfl)] at this
      obtain ⟨e', he', h⟩ := List.mem_map.1 this
      simp only [Prod.mk.injEq] at h
      exact ⟨e', he', h.1.symm, h.2.1.symm, h.2.2.symm⟩
    refine ⟨hm.c0, hm.c1, ?_, hm.next, ?_, hm.iss, ?_, ?_, hm.issN, ?_⟩
    · simpa using hm.len
    · intro e he
      obtain ⟨e', he', h1, h2, h3⟩ := hmem e he
      have := hm.ent e' he'
      exact ⟨by rw [h1]; exact this.t0, by rw [h1]; exact this.t1, by rw [h2]; exact this.s0, by rw [h2]; exact this.s1, by rw [h3]; exact this.h⟩
    · dsimp only; rw [modify_map _ _ _ (fun _ => rfl)]; exact hm.seqs
    · dsimp only; rw [modify_map _ _ _ (fun _ => rfl)]; exact hm.hands
    · dsimp only; rw [sorted_map, modify_map _ _ _ (fun _ => rfl), ← sorted_map]; exact hm.sorted
  · exact hm
theorem batchL_drop (b x : Int) : ∀ (l : List Ent) (out : List Evt), ∃ k, k ≤ l.length ∧ (batchL b x l out).1 = l.drop k
  | [], out => ⟨0, by simp, rfl⟩
  | e :: l, out => by
    rw [batchL]
    split
    · obtain ⟨k, h1, h2⟩ := batchL_drop b x l (if e.dead then out else out ++ [⟨e.time, e.handle⟩])
      exact ⟨k + 1, by simpa using h1, by simpa using h2⟩
    · exact ⟨0, by simp, rfl⟩
theorem batchM_ok {m : Mod} (hm : m.Ok) (c : Cal) : (batchM m c).1.Ok := by
  unfold batchM
  split
  · exact hm
  obtain ⟨k, hk, e⟩ := batchL_drop c.bound c.max m.ents []
  dsimp only
  rw [e]
  have hsub := List.drop_sublist k m.ents
  refine ⟨hm.c0, hm.c1, ?_, hm.next, fun e he => ?_, hm.iss, hm.seqs.sublist (hsub.map _), hm.hands.sublist (hsub.map _), hm.issN, ?_⟩
  · have := hm.len
    simp only [List.length_drop]; omega
  · have := hm.ent e (hsub.subset he)
    exact ⟨this.t0, this.t1, this.s0, this.s1, this.h⟩
  · exact sortedE_pair.2 ((sortedE_pair.1 hm.sorted).sublist hsub)
theorem doM_ok {m : Mod} (hm : m.Ok) (c : Cal) (h : Int) : (doM m c h).1.Ok := by
  unfold doM
  split
  · exact insertM_ok hm c h
  split
  · exact cancelM_ok hm c
  split
  · exact batchM_ok hm c
  · exact hm
theorem doM_iss (m : Mod) (c : Cal) (h : Int) : (doM m c h).1.iss.length ≤ m.iss.length + 1 := by
  unfold doM insertM cancelM batchM
  repeat' split
  all_goals simp
theorem doM_cap (m : Mod) (c : Cal) (h : Int) : (doM m c h).1.cap = m.cap := by
  unfold doM insertM cancelM batchM
  repeat' split
  all_goals rfl
theorem newM_ok {c : Int} (h : 1 ≤ c ∧ c ≤ 64) : (newM c).1.Ok := by
  rw [newM, if_neg (by omega)]
  refine ⟨h.1, h.2, by simp; omega, rfl, by simp, by simp, by simp, by simp, by simp, sortedE_pair.2 (by simp)⟩
theorem batchL_len (b x : Int) : ∀ (l : List Ent) (out : List Evt), (batchL b x l out).2.length ≤ out.length + l.length
  | [], out => by simp [batchL]
  | e :: l, out => by
    rw [batchL]
    split
    · have := batchL_len b x l (if e.dead then out else out ++ [⟨e.time, e.handle⟩])
      have h2 : (if e.dead = true then out else out ++ [⟨e.time, e.handle⟩]).length ≤ out.length + 1 := by split <;> simp
      simp only [List.length_cons]
      omega
    · simp
theorem doM_evs {m : Mod} (c : Cal) (h : Int) : (doM m c h).2.evs.length ≤ m.ents.length := by
  unfold doM insertM cancelM batchM
  repeat' split
  all_goals first | exact Nat.zero_le _ | exact (by simpa using batchL_len c.bound c.max m.ents [])
end Go.Proofs.Ytmihhkcbbdpnaaa.Abs
