/- Plain law: stable merging, over any comparison. -/
namespace Go.Proofs.Ytepepidjefpckaa.Abs
set_option linter.unusedVariables false
set_option linter.unusedSimpArgs false

/-- a comparison that orders totally, but for ties -/
structure Cmp {α : Type} (c : α → α → Int) : Prop where
  anti : ∀ x y, c x y = - c y x
  trans : ∀ x y z, ¬ 0 < c x y → ¬ 0 < c y z → c x z = min (c x y) (c y z)
section
variable {α : Type} {c : α → α → Int}
/-- x may stand before y -/
def le (c : α → α → Int) (x y : α) : Prop := ¬ c y x < 0
theorem Cmp.le_iff (h : Cmp c) {x y : α} : le c x y ↔ c x y ≤ 0 := by
  unfold le
  have := h.anti x y
  omega
theorem Cmp.le_trans (h : Cmp c) {x y z : α} (a : le c x y) (b : le c y z) : le c x z := by
  rw [h.le_iff] at *
  have := h.trans x y z (by omega) (by omega)
  omega
theorem Cmp.lt_le (h : Cmp c) {x y z : α} (a : c x y < 0) (b : le c y z) : c x z < 0 := by
  rw [h.le_iff] at b
  have := h.trans x y z (by omega) (by omega)
  omega
theorem Cmp.le_lt (h : Cmp c) {x y z : α} (a : le c x y) (b : c y z < 0) : c x z < 0 := by
  rw [h.le_iff] at a
  have := h.trans x y z (by omega) (by omega)
  omega
theorem Cmp.lt_le' (h : Cmp c) {x y : α} (a : c x y < 0) : le c x y := by
  rw [h.le_iff]; omega
theorem Cmp.total (h : Cmp c) (x y : α) : le c x y ∨ c y x < 0 := by
  unfold le; omega
def Srt (c : α → α → Int) (l : List α) : Prop := l.Pairwise (le c)

/-- the stable merge -/
def mrg (c : α → α → Int) : List α → List α → List α
  | [], B => B
  | x :: A, B => go x (mrg c A) B
  where
  go (x : α) (k : List α → List α) : List α → List α
    | [] => x :: k []
    | y :: B => if c y x < 0 then y :: go x k B else x :: k (y :: B)
theorem mrg_nil (A : List α) : mrg c A [] = A := by
  induction A with
  | nil => rfl
  | cons x A ih => rw [mrg, mrg.go, ih]
theorem mrg_cons (x y : α) (A B : List α) : mrg c (x :: A) (y :: B) = if c y x < 0 then y :: mrg c (x :: A) B else x :: mrg c A (y :: B) := by
  simp only [mrg, mrg.go]
theorem mrg_cons_nil (x : α) (A : List α) : mrg c (x :: A) [] = x :: A := mrg_nil _
theorem mrg_split : ∀ (A1 B1 A2 B2 : List α), (∀ y ∈ B1, ∀ x ∈ A2, c y x < 0) → (∀ x ∈ A1, ∀ y ∈ B2, le c x y) → mrg c (A1 ++ A2) (B1 ++ B2) = mrg c A1 B1 ++ mrg c A2 B2
  | [], [], A2, B2, _, _ => rfl
  | [], y :: B1, [], B2, h, h' => by simp [mrg]
  | [], y :: B1, x :: A2, B2, h, h' => by
    have ih := mrg_split [] B1 (x :: A2) B2 (fun y hy => h y (by simp [hy])) h'
    simp only [List.nil_append, mrg] at ih ⊢
    rw [List.cons_append, mrg.go, if_pos (h y (by simp) x (by simp)), ih]
    rfl
  | x :: A1, [], A2, [], h, h' => by simp [mrg_nil]
  | x :: A1, [], A2, y :: B2, h, h' => by
    have ih := mrg_split A1 [] A2 (y :: B2) h (fun x hx => h' x (by simp [hx]))
    have hn : ¬ c y x < 0 := h' x (by simp) y (by simp)
    rw [mrg_nil] at ih ⊢
    rw [List.nil_append] at ih ⊢
    rw [List.cons_append, mrg_cons, if_neg hn, ih]
    rfl
  | x :: A1, y :: B1, A2, B2, h, h' => by
    rw [List.cons_append, List.cons_append, mrg_cons, mrg_cons]
    split
    · have ih := mrg_split (x :: A1) B1 A2 B2 (fun y hy => h y (by simp [hy])) h'
      rw [List.cons_append] at ih
      rw [ih]; rfl
    · have ih := mrg_split A1 (y :: B1) A2 B2 h (fun x hx => h' x (by simp [hx]))
      rw [List.cons_append] at ih
      rw [ih]; rfl
termination_by A1 B1 => A1.length + B1.length
theorem mrg_mem : ∀ (A B : List α) (z : α), z ∈ mrg c A B ↔ z ∈ A ∨ z ∈ B
  | [], B, z => by simp [mrg]
  | x :: A, [], z => by simp [mrg_nil]
  | x :: A, y :: B, z => by
    rw [mrg_cons]
    split
    · rw [List.mem_cons, mrg_mem (x :: A) B z]; simp only [List.mem_cons, or_assoc]; constructor <;> (rintro (h | h | h | h) <;> simp [h])
    · rw [List.mem_cons, mrg_mem A (y :: B) z]; simp only [List.mem_cons, or_assoc]
termination_by A B => A.length + B.length
theorem mrg_len : ∀ (A B : List α), (mrg c A B).length = A.length + B.length
  | [], B => by simp [mrg]
  | x :: A, [] => by simp [mrg_nil]
  | x :: A, y :: B => by
    rw [mrg_cons]
    split
    · rw [List.length_cons, mrg_len (x :: A) B]; simp; omega
    · rw [List.length_cons, mrg_len A (y :: B)]; simp; omega
termination_by A B => A.length + B.length
theorem mrg_srt (hc : Cmp c) : ∀ (A B : List α), Srt c A → Srt c B → Srt c (mrg c A B)
  | [], B, _, hB => by simpa [mrg] using hB
  | x :: A, [], hA, _ => by rw [mrg_nil]; exact hA
  | x :: A, y :: B, hA, hB => by
    have a := List.pairwise_cons.1 hA
    have b := List.pairwise_cons.1 hB
    rw [mrg_cons]
    split
    · next h =>
      refine List.pairwise_cons.2 ⟨fun z hz => ?_, mrg_srt hc (x :: A) B hA b.2⟩
      rcases (mrg_mem _ _ _).1 hz with hz | hz
      · have hyx := hc.lt_le' h
        rcases List.mem_cons.1 hz with rfl | hz
        · exact hyx
        · exact hc.le_trans hyx (a.1 z hz)
      · exact b.1 z hz
    · next h =>
      refine List.pairwise_cons.2 ⟨fun z hz => ?_, mrg_srt hc A (y :: B) a.2 hB⟩
      rcases (mrg_mem _ _ _).1 hz with hz | hz
      · exact a.1 z hz
      · have hxy : le c x y := h
        rcases List.mem_cons.1 hz with rfl | hz
        · exact hxy
        · exact hc.le_trans hxy (b.1 z hz)
termination_by A B => A.length + B.length
/-- ties keep their order: what is equal to z stands as it stood -/
def ties (c : α → α → Int) (z : α) (l : List α) : List α := l.filter fun x => decide (c x z = 0)
theorem mrg_ties (hc : Cmp c) (z : α) : ∀ (A B : List α), Srt c A → Srt c B → ties c z (mrg c A B) = ties c z A ++ ties c z B
  | [], B, _, _ => by simp [mrg, ties]
  | x :: A, [], _, _ => by simp [mrg_nil, ties]
  | x :: A, y :: B, hA, hB => by
    have a := List.pairwise_cons.1 hA
    have b := List.pairwise_cons.1 hB
    rw [mrg_cons]
    split
    · next h =>
      have ih := mrg_ties hc z (x :: A) B hA b.2
      have e : ties c z (y :: mrg c (x :: A) B) = ties c z [y] ++ ties c z (mrg c (x :: A) B) := by simp only [ties, ← List.filter_append]; rfl
      have e2 : ties c z (y :: B) = ties c z [y] ++ ties c z B := by simp only [ties, ← List.filter_append]; rfl
      rw [e, ih, e2]
      by_cases hy : c y z = 0
      · have hn : ties c z (x :: A) = [] := by
          unfold ties
          rw [List.filter_eq_nil_iff]
          intro w hw hz
          have hz : c w z = 0 := by simpa using hz
          have hyw : c y w < 0 := by
            rcases List.mem_cons.1 hw with rfl | hw
            · exact h
            · exact hc.lt_le h (a.1 w hw)
          have hzw := hc.anti w z
          have := hc.trans y w z (by omega) (by omega)
          omega
        rw [hn]; simp
      · have hn : ties c z [y] = [] := by simp [ties, hy]
        rw [hn]; simp
    · next h =>
      have ih := mrg_ties hc z A (y :: B) a.2 hB
      have e : ties c z (x :: mrg c A (y :: B)) = ties c z [x] ++ ties c z (mrg c A (y :: B)) := by simp only [ties, ← List.filter_append]; rfl
      have e2 : ties c z (x :: A) = ties c z [x] ++ ties c z A := by simp only [ties, ← List.filter_append]; rfl
      rw [e, ih, e2, List.append_assoc]
termination_by A B => A.length + B.length
/-- a sorted list is known by its ties -/
theorem srt_unique (hc : Cmp c) (refl : ∀ x, c x x = 0) : ∀ (L M : List α), Srt c L → Srt c M → (∀ z, ties c z L = ties c z M) → L = M
  | [], [], _, _, _ => rfl
  | [], y :: M, _, _, h => by have := h y; simp [ties, refl] at this
  | x :: L, [], _, _, h => by have := h x; simp [ties, refl] at this
  | x :: L, y :: M, hL, hM, h => by
    have a := List.pairwise_cons.1 hL
    have b := List.pairwise_cons.1 hM
    have mem : ∀ {w : α} {l l' : List α}, ties c w l = ties c w l' → w ∈ l → w ∈ l' := by
      intro w l l' e hw
      have : w ∈ ties c w l := List.mem_filter.2 ⟨hw, by simp [refl]⟩
      rw [e] at this
      exact (List.mem_filter.1 this).1
    have hyx : le c y x := by
      rcases List.mem_cons.1 (mem (h x) (by simp)) with e | hx
      · rw [e]; unfold le; rw [refl]; omega
      · exact b.1 x hx
    have hxy : le c x y := by
      rcases List.mem_cons.1 (mem (h y).symm (by simp)) with e | hy
      · rw [e]; unfold le; rw [refl]; omega
      · exact a.1 y hy
    rw [hc.le_iff] at hyx hxy
    have e0 : c x y = 0 := by have := hc.anti x y; omega
    have e1 : c y x = 0 := by have := hc.anti x y; omega
    have hxy : x = y := by
      have := h y
      simp only [ties, List.filter_cons, e0, refl, decide_true, if_true] at this
      exact (List.cons.inj this).1
    subst hxy
    rw [srt_unique hc refl L M a.2 b.2 fun z => ?_]
    have := h z
    simp only [ties, List.filter_cons] at this
    split at this
    · exact (List.cons.inj this).2
    · exact this
theorem ties_append (z : α) (l m : List α) : ties c z (l ++ m) = ties c z l ++ ties c z m := by simp [ties]
theorem srt_one (x : α) : Srt c [x] := List.pairwise_singleton _ _
/-- the stable sort -/
def ssort (c : α → α → Int) (R : List α) : List α := R.foldl (fun A x => mrg c A [x]) []
theorem foldl_sort (hc : Cmp c) : ∀ (R A : List α), Srt c A → Srt c (R.foldl (fun A x => mrg c A [x]) A) ∧ (∀ z, ties c z (R.foldl (fun A x => mrg c A [x]) A) = ties c z A ++ ties c z R) ∧ (R.foldl (fun A x => mrg c A [x]) A).length = A.length + R.length
  | [], A, hA => ⟨hA, fun z => by simp [ties], by simp⟩
  | x :: R, A, hA => by
    obtain ⟨h1, h2, h3⟩ := foldl_sort hc R (mrg c A [x]) (mrg_srt hc A [x] hA (srt_one x))
    refine ⟨h1, fun z => ?_, ?_⟩
    · rw [List.foldl_cons, h2, mrg_ties hc z A [x] hA (srt_one x), show x :: R = [x] ++ R from rfl, ties_append, List.append_assoc]
    · rw [List.foldl_cons, h3, mrg_len]; simp; omega
theorem ssort_srt (hc : Cmp c) (R : List α) : Srt c (ssort c R) := (foldl_sort hc R [] List.Pairwise.nil).1
theorem ssort_ties (hc : Cmp c) (R : List α) (z : α) : ties c z (ssort c R) = ties c z R := ((foldl_sort hc R [] List.Pairwise.nil).2.1 z).trans (by simp [ties])
theorem ssort_len (hc : Cmp c) (R : List α) : (ssort c R).length = R.length := ((foldl_sort hc R [] List.Pairwise.nil).2.2).trans (by simp)
theorem ties_mem (refl : ∀ x, c x x = 0) {l m : List α} (h : ∀ z, ties c z l = ties c z m) {x : α} (hx : x ∈ l) : x ∈ m := by
  have : x ∈ ties c x l := List.mem_filter.2 ⟨hx, by simp [refl]⟩
  rw [h x] at this
  exact (List.mem_filter.1 this).1
theorem ssort_unique (hc : Cmp c) (refl : ∀ x, c x x = 0) {D R : List α} (h : Srt c D) (ht : ∀ z, ties c z D = ties c z R) : D = ssort c R :=
  srt_unique hc refl D (ssort c R) h (ssort_srt hc R) fun z => (ht z).trans (ssort_ties hc R z).symm
theorem ssort_snoc (A : List α) (x : α) : ssort c (A ++ [x]) = mrg c (ssort c A) [x] := by simp [ssort]
theorem ssort_mem (hc : Cmp c) (refl : ∀ x, c x x = 0) (R : List α) (x : α) : x ∈ ssort c R ↔ x ∈ R :=
  ⟨fun h => ties_mem refl (ssort_ties hc R) h, fun h => ties_mem refl (fun z => (ssort_ties hc R z).symm) h⟩
theorem ssort_of_srt (hc : Cmp c) (refl : ∀ x, c x x = 0) {D : List α} (h : Srt c D) : ssort c D = D := (ssort_unique hc refl h fun _ => rfl).symm
theorem perm_of_ties [DecidableEq α] (refl : ∀ x, c x x = 0) {l m : List α} (h : ∀ z, ties c z l = ties c z m) : l.Perm m := by
  rw [List.perm_iff_count]
  intro a
  have e : ∀ l : List α, l.count a = (ties c a l).count a := by
    intro l
    unfold ties
    rw [List.count_filter (by simp [refl])]
  rw [e l, e m, h a]
end
end Go.Proofs.Ytepepidjefpckaa.Abs
