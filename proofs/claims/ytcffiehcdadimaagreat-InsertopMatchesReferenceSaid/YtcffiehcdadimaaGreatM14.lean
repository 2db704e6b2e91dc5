/- Insertions: the names in a call's blocks; what calls show. -/
import Derived.Test.YtcffiehcdadimaaGreatMB
import Derived.Test.YtcffiehcdadimaaGreatC21
namespace Go.Proofs.YtcffiehcdadimaaGreat.Abs
open Go.Proofs
set_option maxRecDepth 10000
set_option linter.unusedSimpArgs false
set_option linter.unusedVariables false
theorem nxV_names (pc : PC) (ν : Nat → Nat) : ∀ n ∈ nameOf (nxV pc ν), ∃ j, j < 12 ∧ n = ν j := by
 intro n hn
 cases pc <;> simp [nxV, nameOf, namesOf, fnO, fnT, pO, pB] at hn
 all_goals first
  | exact ⟨0, by omega, hn⟩
  | exact ⟨2, by omega, hn⟩
  | (rcases hn with h | h | h | h
     · exact ⟨2, by omega, h⟩
     · exact ⟨3, by omega, h⟩
     · exact ⟨4, by omega, h⟩
     · exact ⟨5, by omega, h⟩)
theorem nxV_ren (pc : PC) (ν σ : Nat → Nat) : renV σ (nxV pc ν) = nxV pc (fun i => σ (ν i)) := by
 cases pc <;> rfl
theorem hdV_ren (hd : Option (List Int × Nat)) (n : Nat) (σ : Nat → Nat) : renV σ (hdV hd n) = hdV hd (σ n) := by
 rcases hd with _ | ⟨l, k⟩ <;> rfl
theorem ptV_ren (ok : Bool) (ν σ : Nat → Nat) : renV σ (ptV ok ν) = ptV ok (fun i => σ (ν i)) := by
 cases ok <;> rfl
theorem blk_ren (o : IOp) (st : Nat) (ν σ : Nat → Nat) (i : Nat) : renB σ (o.blkB st ν i) = o.blkB (σ st) (fun i => σ (ν i)) i := by
 obtain ⟨th, t, pc, hd, h, e, ok, ef, bl⟩ := o
 unfold IOp.blkB
 dsimp only
 split
 · unfold opR
   simp only [renB, List.map_cons, List.map_nil, renVs, nxV_ren, hdV_ren, ptV_ren]
   rfl
 · rcases hd with _ | ⟨l, k⟩ <;> rfl
 · cases pc <;> rfl
 · cases pc <;> rfl
 · cases pc <;> rfl
 · cases pc <;> rfl
 · cases pc <;> rfl
 · cases pc <;> rfl
 · cases pc <;> rfl
 · cases pc <;> rfl
 · cases ok <;> rfl
 · cases ok <;> rfl
 · rfl
theorem blk_names (o : IOp) (st : Nat) (ν : Nat → Nat) (i : Nat) : ∀ n ∈ namesB (o.blkB st ν i), (∃ j, j < 12 ∧ n = ν j) ∨ n = st := by
 obtain ⟨th, t, pc, hd, h, e, ok, ef, bl⟩ := o
 have one : ∀ {x : V} {n : Nat}, n ∈ namesB (cl1 x) → n ∈ nameOf x := fun {x n} h => by
  simpa [cl1, namesB, namesOf] using h
 have hO : ∀ n, n ∈ nameOf (pO ν) → (∃ j, j < 12 ∧ n = ν j) ∨ n = st := fun n h => .inl ⟨0, by omega, by simpa [pO, nameOf] using h⟩
 have hF : ∀ f n, n ∈ nameOf (fnO f ν) → (∃ j, j < 12 ∧ n = ν j) ∨ n = st := fun f n h => .inl ⟨0, by omega, by simpa [fnO, pO, nameOf, namesOf] using h⟩
 have hT : ∀ a, a + 3 < 12 → ∀ n, n ∈ nameOf (fnT ν a) → (∃ j, j < 12 ∧ n = ν j) ∨ n = st := fun a ha n h => by
  simp [fnT, pB, nameOf, namesOf] at h
  left
  rcases h with h | h | h | h
  · exact ⟨a, by omega, h⟩
  · exact ⟨a + 1, by omega, h⟩
  · exact ⟨a + 2, by omega, h⟩
  · exact ⟨a + 3, by omega, h⟩
 have hI : ∀ x n, n ∉ nameOf (V.int x) := fun x n h => by simp [V.int, nameOf] at h
 have hN : ∀ n, n ∉ namesB noB := fun n h => by simp [noB, namesB] at h
 intro n hn
 unfold IOp.blkB at hn
 dsimp only at hn
 split at hn
 · unfold opR at hn
   simp only [namesB, List.flatMap_cons, List.flatMap_nil, List.append_nil, namesOf, List.mem_append] at hn
   rcases hn with h | h | h | h | h | h | h | h | h | h | h | h | h | h | h | h | h
   · right; simpa [nameOf] using h
   · exact absurd h (hI _ _)
   · exact absurd h (hI _ _)
   · exact .inl (nxV_names pc ν n h)
   · rcases hd with _ | ⟨l, k⟩
     · simp [hdV, nameOf] at h
     · exact .inl ⟨1, by omega, by simpa [hdV, nameOf] using h⟩
   · cases ok
     · simp [ptV, nameOf, namesOf] at h
     · simp [ptV, pB, nameOf, namesOf] at h
       rcases h with h | h
       · exact .inl ⟨10, by omega, h⟩
       · exact .inl ⟨11, by omega, h⟩
   all_goals (first | exact absurd h (hI _ _) | simp [V.bool, nilS, nameOf, namesOf] at h)
 · rcases hd with _ | ⟨l, k⟩ <;> simp [hdD, namesB] at hn
 all_goals
  first
   | (cases pc <;> (dsimp only [boxO, boxM, boxT, boxN, boxX] at hn; first | exact absurd hn (hN _) | exact hO _ (one hn) | exact hF _ _ (one hn) | exact hT _ (by omega) _ (one hn) | exact absurd (one hn) (hI _ _)))
   | (cases ok <;> (dsimp only [boxP] at hn; first | exact absurd hn (hN _) | exact hO _ (one hn) | exact absurd (one hn) (hI _ _)))
   | exact absurd hn (hN _)
end Go.Proofs.YtcffiehcdadimaaGreat.Abs
