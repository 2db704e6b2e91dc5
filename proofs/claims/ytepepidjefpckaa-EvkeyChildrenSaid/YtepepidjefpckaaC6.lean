/- The abstract machine, part 21: other names; loops by the states that their rounds begin in. -/
import Derived.Test.YtepepidjefpckaaC5
namespace Go.Proofs.Ytepepidjefpckaa.Abs
set_option linter.unusedVariables false
set_option linter.unusedSimpArgs false

mutual
def renV (ρ : Nat → Nat) : V → V
  | .un => .un
  | .c v => .c v
  | .lst sz rows cl => .lst sz rows cl
  | .q row j => .q row j
  | .sl n sz off len => .sl (ρ n) sz off len
  | .ac n sz len => .ac (ρ n) sz len
  | .p n sz i j => .p (ρ n) sz i j
  | .mp n => .mp (ρ n)
  | .agg xs => .agg (renVs ρ xs)
  | .tup xs => .tup (renVs ρ xs)
  | .fn f a b => .fn f (renVs ρ a) (renVs ρ b)
  | .ifc t x => .ifc t (renV ρ x)
def renVs (ρ : Nat → Nat) : List V → List V
  | [] => []
  | x :: xs => renV ρ x :: renVs ρ xs
end
theorem renVs_map (ρ : Nat → Nat) : ∀ xs, renVs ρ xs = xs.map (renV ρ)
  | [] => rfl
  | x :: xs => by rw [renVs, renVs_map ρ xs, List.map_cons]
theorem renV_toV (ρ : Nat → Nat) (d : D) : renV ρ d.toV = d.toV := by cases d <;> rfl
def renB (ρ : Nat → Nat) : B → B
  | .rows sz r => .rows sz (r.map (renVs ρ))
  | .dat sz r => .dat sz r
  | .map es => .map (es.map fun e => (e.1, renV ρ e.2))
theorem renB_real (ρ : Nat → Nat) (b : B) : (renB ρ b).real = b.real := by
  cases b with
  | dat sz r => rfl
  | _ => rfl

section
variable {A A' : Nat → Prop} {w : World}
mutual
theorem ren_rep {ids : Nat → Nat × Nat} {ρ : Nat → Nat} (hA : ∀ b, A' b → A b) : ∀ (x : V) (v : Value), RepV A ids w (renV ρ x) v → RepV A' (fun n => ids (ρ n)) w x v
  | .un, v, _ => .un v
  | .c u, v, h => by rw [renV] at h; cases h; exact .c _
  | .lst sz rows cl, v, h => by
    rw [renV] at h
    cases h with | lst _ _ _ _ hd hcl => exact .lst _ _ _ _ (hd.mono (Goes.refl A w) fun b _ x => hA b x) hcl
  | .q row j, v, h => by
    rw [renV] at h
    cases h with | q _ _ b o cell hb hn hc hd => exact .q row j b o cell hb (fun x => hn (hA b x)) hc fun k d hk => (hd k d hk).mono (Goes.refl A w) fun b _ x => hA b x
  | .sl n sz off len, v, h => by
    rw [renV] at h
    cases h with | sl _ _ _ _ cap ad hl hc => exact .sl _ _ _ _ cap ad hl hc
  | .ac n sz len, v, h => by
    rw [renV] at h
    cases h with
    | ac0 => exact .ac0 ..
    | ac1 _ _ _ _ h0 h => cases h with | sl _ _ _ _ cap ad hl hc => exact .ac1 _ _ _ _ h0 (.sl _ _ _ _ cap ad hl hc)
  | .p n sz i j, v, h => by
    rw [renV] at h
    cases h; exact RepV.p (ids := fun n => ids (ρ n)) ..
  | .mp n, v, h => by
    rw [renV] at h
    cases h; exact RepV.mp (ids := fun n => ids (ρ n)) ..
  | .agg xs, v, h => by
    rw [renV] at h
    cases h with | agg _ arr hs hx => exact .agg xs arr (by rw [hs, renVs_map, List.length_map]) fun i x v hi hv => ren_reps hA xs i x v hi (hx i (renV ρ x) v (by rw [renVs_map, List.getElem?_map, hi]; rfl) hv)
  | .tup xs, v, h => by
    rw [renV] at h
    cases h with | tup _ arr hs hx => exact .tup xs arr (by rw [hs, renVs_map, List.length_map]) fun i x v hi hv => ren_reps hA xs i x v hi (hx i (renV ρ x) v (by rw [renVs_map, List.getElem?_map, hi]; rfl) hv)
  | .fn f xs ys, v, h => by
    rw [renV] at h
    cases h with
    | fn _ _ _ ar br h1 h2 h3 h4 =>
      exact .fn f xs ys ar br (by rw [h1, renVs_map, List.length_map]) (by rw [h2, renVs_map, List.length_map])
        (fun i x v hi hv => ren_reps hA xs i x v hi (h3 i (renV ρ x) v (by rw [renVs_map, List.getElem?_map, hi]; rfl) hv))
        (fun i x v hi hv => ren_reps hA ys i x v hi (h4 i (renV ρ x) v (by rw [renVs_map, List.getElem?_map, hi]; rfl) hv))
  | .ifc t x, v, h => by
    rw [renV] at h
    cases h with | ifc _ _ u hu => exact .ifc t x u (ren_rep hA x u hu)
theorem ren_reps {ids : Nat → Nat × Nat} {ρ : Nat → Nat} (hA : ∀ b, A' b → A b) : ∀ (xs : List V) (i : Nat) (x : V) (v : Value), xs[i]? = some x → RepV A ids w (renV ρ x) v → RepV A' (fun n => ids (ρ n)) w x v
  | [], i, x, v, h, _ => by simp at h
  | y :: ys, 0, x, v, h, hr => by simp at h; subst h; exact ren_rep hA y v hr
  | y :: ys, i + 1, x, v, h, hr => ren_reps hA ys i x v (by simpa using h) hr
end

theorem ren_repB {ids : Nat → Nat × Nat} {ρ : Nat → Nat} (hA : ∀ b, A' b → A b) {p : Nat × Nat} {b : B} (h : RepB A ids w p (renB ρ b)) : RepB A' (fun n => ids (ρ n)) w p b := by
  cases b with
  | dat sz r =>
    refine ⟨fun hr => ?_, h.2⟩
    obtain ⟨arr, T, h1, h2, h3, h4⟩ := h.1 hr
    refine ⟨arr, T, h1, h2, h3, fun i row j x hr hx => ?_⟩
    obtain ⟨v, hv, hrep⟩ := h4 i row j x hr hx
    refine ⟨v, hv, ren_rep hA x v ?_⟩
    rw [toVs_get, Option.map_eq_some_iff] at hr
    obtain ⟨rd, _, rfl⟩ := hr
    rw [List.getElem?_map, Option.map_eq_some_iff] at hx
    obtain ⟨d, _, rfl⟩ := hx
    rw [renV_toV]; exact hrep
  | rows sz r =>
    obtain ⟨arr, T, h1, h2, h3, h4⟩ := h
    refine ⟨arr, T, h1, by simpa using h2, fun row hr => ?_, fun i row j x hr hx => ?_⟩
    · have := h3 (renVs ρ row) (List.mem_map_of_mem hr)
      rw [renVs_map, List.length_map] at this; exact this
    · obtain ⟨v, hv, hrep⟩ := h4 i (renVs ρ row) j (renV ρ x) (by rw [List.getElem?_map, hr]; rfl) (by rw [renVs_map, List.getElem?_map, hx]; rfl)
      exact ⟨v, hv, ren_rep hA x v hrep⟩
  | map es =>
    obtain ⟨ar, k, h1, h2, h3⟩ := h
    refine ⟨ar, k, h1, by simpa using h2, fun i e m he hm => ?_⟩
    obtain ⟨e1, e2⟩ := h3 i (e.1, renV ρ e.2) m (by rw [List.getElem?_map, he]; rfl) hm
    exact ⟨e1, ren_rep hA _ _ e2⟩

theorem rep_ren {ids ids2 : Nat → Nat × Nat} {σ : Nat → Nat} {M : Nm} (hA : ∀ b, b < w.heap.size → A' b → A b) (hi : ∀ k, M k → ids2 (σ k) = ids k) {x : V} {v : Value} (h : RepV A ids w x v) (hb : x.Below M) : RepV A' ids2 w (renV σ x) v := by
  have hg := Goes.refl A w
  induction h with
  | un v => rw [renV]; exact .un v
  | c v => rw [renV]; exact .c v
  | lst sz rows clip v h hcl => rw [renV]; exact .lst _ _ _ _ (h.mono hg hA) hcl
  | sl n sz off len cap ad hl hc =>
    cases hb with
    | sl _ _ _ _ hn => rw [renV]; exact .sl _ _ _ _ cap ad hl (by rw [hi n hn]; exact hc)
  | ac0 n sz ad => rw [renV]; exact .ac0 ..
  | ac1 n sz len v h0 h ih =>
    cases hb with
    | ac _ _ _ hn =>
      have := ih (.sl _ _ _ _ hn)
      rw [renV] at this
      rw [renV]
      exact .ac1 _ _ _ _ h0 this
  | p n sz i j =>
    cases hb with
    | p _ _ _ _ hn => rw [renV, ← hi n hn]; exact .p ..
  | q row j b o cell hb' hn hc hd => rw [renV]; exact .q row j b o cell hb' (fun x => hn (hA b hb' x)) hc fun k d hk => (hd k d hk).mono hg hA
  | agg xs arr hs h ih =>
    cases hb with
    | agg _ hx =>
      rw [renV, renVs_map]
      refine .agg _ _ (by rw [hs, List.length_map]) fun i x v h1 h2 => ?_
      rw [List.getElem?_map, Option.map_eq_some_iff] at h1
      obtain ⟨y, hy, rfl⟩ := h1
      exact ih i y v hy h2 (hx y (List.mem_of_getElem? hy))
  | tup xs arr hs h ih =>
    cases hb with
    | tup _ hx =>
      rw [renV, renVs_map]
      refine .tup _ _ (by rw [hs, List.length_map]) fun i x v h1 h2 => ?_
      rw [List.getElem?_map, Option.map_eq_some_iff] at h1
      obtain ⟨y, hy, rfl⟩ := h1
      exact ih i y v hy h2 (hx y (List.mem_of_getElem? hy))
  | fn f xs ys ar br hs hs' h h' ih ih' =>
    cases hb with
    | fn _ _ _ hx hx' =>
      rw [renV, renVs_map, renVs_map]
      refine .fn f _ _ ar br (by rw [hs, List.length_map]) (by rw [hs', List.length_map]) (fun i x v h1 h2 => ?_) (fun i x v h1 h2 => ?_)
      · rw [List.getElem?_map, Option.map_eq_some_iff] at h1
        obtain ⟨y, hy, rfl⟩ := h1
        exact ih i y v hy h2 (hx y (List.mem_of_getElem? hy))
      · rw [List.getElem?_map, Option.map_eq_some_iff] at h1
        obtain ⟨y, hy, rfl⟩ := h1
        exact ih' i y v hy h2 (hx' y (List.mem_of_getElem? hy))
  | ifc t x v h ih =>
    cases hb with
    | ifc _ _ hx => rw [renV]; exact .ifc _ _ _ (ih hx)
  | mp n =>
    cases hb with
    | mp _ hn => rw [renV, ← hi n hn]; exact .mp ..

theorem rep_renB {ids ids2 : Nat → Nat × Nat} {σ : Nat → Nat} {M : Nm} (hA : ∀ b, b < w.heap.size → A' b → A b) (hi : ∀ k, M k → ids2 (σ k) = ids k) {p : Nat × Nat} {b : B} (h : RepB A ids w p b) (hb : b.Below M) : RepB A' ids2 w p (renB σ b) := by
  cases b with
  | dat sz r =>
    refine ⟨fun hr => ?_, h.2⟩
    obtain ⟨arr, T, h1, h2, h3, h4⟩ := h.1 hr
    refine ⟨arr, T, h1, h2, h3, fun i row j x hr hx => ?_⟩
    obtain ⟨v, hv, hrep⟩ := h4 i row j x hr hx
    have := rep_ren hA hi hrep (toVs_below M r row (List.mem_of_getElem? hr) x (List.mem_of_getElem? hx))
    rw [toVs_get, Option.map_eq_some_iff] at hr
    obtain ⟨rd, _, rfl⟩ := hr
    rw [List.getElem?_map, Option.map_eq_some_iff] at hx
    obtain ⟨d, _, rfl⟩ := hx
    rw [renV_toV] at this
    exact ⟨v, hv, this⟩
  | rows sz r =>
    obtain ⟨arr, T, h1, h2, h3, h4⟩ := h
    refine ⟨arr, T, h1, by simpa using h2, fun row hr => ?_, fun i row j x hr hx => ?_⟩
    · obtain ⟨row', hr', rfl⟩ := List.mem_map.1 hr
      rw [renVs_map, List.length_map]; exact h3 row' hr'
    · rw [List.getElem?_map, Option.map_eq_some_iff] at hr
      obtain ⟨row', hr', rfl⟩ := hr
      rw [renVs_map, List.getElem?_map, Option.map_eq_some_iff] at hx
      obtain ⟨y, hy, rfl⟩ := hx
      obtain ⟨v, hv, hrep⟩ := h4 i row' j y hr' hy
      exact ⟨v, hv, rep_ren hA hi hrep (hb row' (List.mem_of_getElem? hr') y (List.mem_of_getElem? hy))⟩
  | map es =>
    obtain ⟨ar, k, h1, h2, h3⟩ := h
    refine ⟨ar, k, h1, by simpa using h2, fun i e m he hm => ?_⟩
    rw [List.getElem?_map, Option.map_eq_some_iff] at he
    obtain ⟨e', he', rfl⟩ := he
    obtain ⟨e1, e2⟩ := h3 i e' m he' hm
    exact ⟨e1, rep_ren hA hi e2 (hb e' (List.mem_of_getElem? he'))⟩
end

/-- other, or fewer, names for the blocks of a heap; names for no block come and go -/
structure Ren (ρ : Nat → Nat) (h h' : Hp) (M' : Nm) : Prop where
  hp : ∀ n b, h' n = some b → h (ρ n) = some (renB ρ b) ∨ b.real = false
  inj : ∀ n m b c, h' n = some b → h' m = some c → b.real = true → c.real = true → ρ n = ρ m → n = m
  lt : ∀ n b, h' n = some b → M' n ∧ b.Below M'
theorem Ren.real {ρ : Nat → Nat} {h h' : Hp} {M' : Nm} (r : Ren ρ h h' M') {n : Nat} {b : B} (hn : h' n = some b) (hr : b.real = true) : h (ρ n) = some (renB ρ b) := (r.hp n b hn).resolve_right (by simp [hr])
theorem Ren.avoid {ρ : Nat → Nat} {h h' : Hp} {M' : Nm} (r : Ren ρ h h' M') {F : Nat → Prop} {ids : Nat → Nat × Nat} (b : Nat) (x : Avoid F h' (fun n => ids (ρ n)) b) : Avoid F h ids b := by
  rcases x with x | ⟨n, c, hn, hr, hb⟩
  · exact .inl x
  · exact .inr ⟨ρ n, _, r.real hn hr, by rw [renB_real]; exact hr, hb⟩
theorem Ren.heap {ρ : Nat → Nat} {h h' : Hp} {M M' : Nm} (r : Ren ρ h h' M') {F : Nat → Prop} {ids : Nat → Nat × Nat} {w : World} (hh : RepH F ids w h M) : RepH F (fun n => ids (ρ n)) w h' M' :=
  ⟨fun n b hn => (r.lt n b hn).1, fun n b hn => (by
      rcases r.hp n b hn with h1 | h1
      · exact ren_repB (fun b x => r.avoid b x) (hh.blk (ρ n) _ h1)
      · cases b with
        | dat sz rw => cases rw with
          | nil => exact ⟨fun h => absurd rfl h, by simp [leaves]⟩
          | cons _ _ => cases h1
        | _ => cases h1), fun n b hn => (r.lt n b hn).2,
   fun n m b c hn hm hb hc e => r.inj n m b c hn hm hb hc (hh.inj _ _ _ _ (r.real hn hb) (r.real hm hc) (by rw [renB_real]; exact hb) (by rw [renB_real]; exact hc) e), fun n b hn hb => hh.out _ _ (r.real hn hb) (by rw [renB_real]; exact hb), hh.fsz⟩


/-! ### a state that says no more than another one -/
def ren1 : List (Nat × Nat) → Nat → Nat
  | [], n => n
  | p :: l, n => match Nat.beq n p.1 with
    | true => p.2
    | false => ren1 l n
def ltAll (b : Nat) (l : List Nat) : Bool := l.all fun n => Nat.blt n b
/-- the value u of the state, as v with other names -/
def subV (ρ : Nat → Nat) (b : Nat) (v u : V) (K : Prop) : Prop :=
  match v with
  | .ac n sz len => match u with
    | .c (.slice none 0 0) => okK (Nat.blt n b) (CB (len = 0) K)
    | .ac n' sz' len' => okK (Nat.blt n b) (okK (Nat.beq n' (ρ n)) (okK (Nat.beq sz' sz) (CB (len' = len) K)))
    | _ => False
  | .sl n sz off len => match u with
    | .sl n' sz' off' len' => okK (Nat.blt n b) (okK (Nat.beq n' (ρ n)) (okK (Nat.beq sz' sz) (CB (off' = off ∧ len' = len) K)))
    | _ => False
  | .c (.int k n) => match u with
    | .c (.int k' n') => sameK k k' (CB (n' = n) K)
    | _ => False
  | .c (.bool z) => match u with
    | .c (.bool z') => CB (z' = z) K
    | _ => False
  | .lst sz rows cl => match u with
    | .lst sz' rows' cl' => okK (Nat.beq sz' sz) (CB (rows' = rows ∧ cl' = cl) K)
    | _ => False
  | v => okK (ltAll b (nameOf v)) (CB (u = renV ρ v) K)
def subV1 (ρ : Nat → Nat) (b : Nat) (v u : V) (X : Prop) : Prop :=
  match v with
  | .un => X
  | v => subV ρ b v u X
abbrev SubT := List V → Prop → Prop
def subTNil : SubT := fun t K => match t with
  | [] => K
  | _ => False
def subTCons (ρ : Nat → Nat) (b : Nat) (v : V) (T : List V) (ih : SubT) : SubT := fun t K => match t with
  | u :: t => subV1 ρ b v u (ih t K)
  | [] => False
noncomputable def subT (ρ : Nat → Nat) (b : Nat) (T : List V) : SubT := List.rec (motive := fun _ => SubT) subTNil (subTCons ρ b) T
def namesB : B → List Nat
  | .rows _ r => r.flatMap namesOf
  | .dat _ _ => []
  | .map es => es.flatMap fun e => nameOf e.2
def subHNil : Prop → Prop := fun K => K
def subHCons (ρ : Nat → Nat) (b : Nat) (h : List (Nat × B)) (p : Nat × B) (H : List (Nat × B)) (ih : Prop → Prop) : Prop → Prop := fun K =>
  okK (Nat.blt p.1 b) (match p.2 with
    | .dat sz r => match hAt h (ρ p.1) with
      | some (.dat sz' r') => okK (Nat.beq sz' sz) (CB (r' = r) (ih K))
      | _ => CB (r = []) (ih K)
    | B => match hAt h (ρ p.1) with
      | some B' => okK (ltAll b (namesB B)) (CB (B' = renB ρ B) (ih K))
      | none => False)
noncomputable def subH (ρ : Nat → Nat) (b : Nat) (H h : List (Nat × B)) : Prop → Prop := List.rec (motive := fun _ => Prop → Prop) subHNil (subHCons ρ b h) H
def noTwice : List Nat → Bool
  | [] => true
  | x :: xs => !(xs.contains x) && noTwice xs
noncomputable def subK (ρ : List (Nat × Nat)) (N b : Nat) (T : List V) (H : List (Nat × B)) (t : List V) (h : List (Nat × B)) : Prop :=
  okK (ρ.all fun p => Nat.ble N p.1) (okK (noTwice (H.map fun p => ren1 ρ p.1)) (subT (ren1 ρ) b T t (subH (ren1 ρ) b H h True)))

theorem ren1_id {ρ : List (Nat × Nat)} {N n : Nat} (h : (ρ.all fun p => Nat.ble N p.1) = true) (hn : n < N) : ren1 ρ n = n := by
  induction ρ with
  | nil => rfl
  | cons p l ih =>
    simp only [List.all_cons, Bool.and_eq_true] at h
    have h1 := Nat.le_of_ble_eq_true h.1
    simp only [ren1]
    split
    · next e => have := Nat.eq_of_beq_eq_true e; omega
    · exact ih h.2
theorem ltAll_below {b : Nat} {v : V} (h : ltAll b (nameOf v) = true) : v.Below (Lt b) := all_below h
theorem subV_of {ρ : Nat → Nat} {b : Nat} {v u : V} {K : Prop} (h : subV ρ b v u K) : K ∧ v.Below (Lt b) ∧ (u = renV ρ v ∨ (u = .c (.slice none 0 0) ∧ ∃ n sz, v = .ac n sz 0)) := by
  unfold subV at h
  split at h
  · next n sz len =>
    split at h
    · obtain ⟨e1, h⟩ := okK_of h
      obtain ⟨e2, h'⟩ := h
      subst e2
      exact ⟨h', .ac _ _ _ (by simpa [Nat.blt_eq, Lt] using e1), .inr ⟨rfl, n, sz, rfl⟩⟩
    · obtain ⟨e1, h⟩ := okK_of h
      obtain ⟨e2, h⟩ := okK_of h
      obtain ⟨e3, h⟩ := okK_of h
      obtain ⟨e4, h⟩ := h
      refine ⟨h, .ac _ _ _ (by simpa [Nat.blt_eq, Lt] using e1), .inl ?_⟩
      rw [renV, Nat.eq_of_beq_eq_true e2, Nat.eq_of_beq_eq_true e3, e4]
    · cases h
  · next n sz off len =>
    split at h
    · obtain ⟨e1, h⟩ := okK_of h
      obtain ⟨e2, h⟩ := okK_of h
      obtain ⟨e3, h⟩ := okK_of h
      obtain ⟨e4, h⟩ := h
      refine ⟨h, .sl _ _ _ _ (by simpa [Nat.blt_eq, Lt] using e1), .inl ?_⟩
      rw [renV, Nat.eq_of_beq_eq_true e2, Nat.eq_of_beq_eq_true e3, e4.1, e4.2]
    · cases h
  · split at h
    · obtain ⟨e1, h⟩ := sameK_of h
      obtain ⟨e2, h⟩ := h
      exact ⟨h, .c _, .inl (by rw [renV, e1, e2])⟩
    · cases h
  · split at h
    · obtain ⟨e2, h⟩ := h
      exact ⟨h, .c _, .inl (by rw [renV, e2])⟩
    · cases h
  · split at h
    · obtain ⟨e1, h⟩ := okK_of h
      obtain ⟨e2, h⟩ := h
      exact ⟨h, .lst _ _ _, .inl (by rw [renV, Nat.eq_of_beq_eq_true e1, e2.1, e2.2])⟩
    · cases h
  · obtain ⟨e1, h⟩ := okK_of h
    obtain ⟨e2, h⟩ := h
    exact ⟨h, ltAll_below e1, .inl e2⟩
theorem subT_of {ρ : Nat → Nat} {b : Nat} : ∀ {T t : List V} {K : Prop}, subT ρ b T t K → K ∧ T.length = t.length ∧ ∀ i, (tAt T i).Below (Lt b) ∧ (tAt T i = .un ∨ tAt t i = renV ρ (tAt T i) ∨ (tAt t i = .c (.slice none 0 0) ∧ ∃ n sz, tAt T i = .ac n sz 0))
  | [], [], K, h => ⟨h, rfl, fun i => ⟨.un, .inl rfl⟩⟩
  | v :: T, u :: t, K, h => by
    have h : subV1 ρ b v u (subT ρ b T t K) := h
    unfold subV1 at h
    split at h
    · obtain ⟨h1, h2, h3⟩ := subT_of h
      refine ⟨h1, by simp [h2], fun i => ?_⟩
      cases i with
      | zero => exact ⟨.un, .inl rfl⟩
      | succ i => exact h3 i
    · obtain ⟨h, hb, hv⟩ := subV_of h
      obtain ⟨h1, h2, h3⟩ := subT_of h
      refine ⟨h1, by simp [h2], fun i => ?_⟩
      cases i with
      | zero => exact ⟨hb, .inr hv⟩
      | succ i => exact h3 i
  | [], _ :: _, K, h => by cases h
  | _ :: _, [], K, h => by cases h
theorem ltAll_belowB {b : Nat} {x : B} (h : ltAll b (namesB x) = true) : x.Below (Lt b) := by
  unfold ltAll at h
  rw [List.all_eq_true] at h
  cases x with
  | dat sz r => trivial
  | rows sz r =>
    intro row hr y hy
    refine all_below ?_
    rw [List.all_eq_true]
    exact fun n hn => h n (List.mem_flatMap.2 ⟨row, hr, mem_namesOf.2 ⟨y, hy, hn⟩⟩)
  | map es =>
    intro e he
    refine all_below ?_
    rw [List.all_eq_true]
    exact fun n hn => h n (List.mem_flatMap.2 ⟨e, he, hn⟩)
theorem subH_of {ρ : Nat → Nat} {b : Nat} : ∀ {H h : List (Nat × B)} {K : Prop}, subH ρ b H h K → K ∧ ∀ p ∈ H, p.1 < b ∧ p.2.Below (Lt b) ∧ (hAt h (ρ p.1) = some (renB ρ p.2) ∨ p.2.real = false)
  | [], h, K, hk => ⟨hk, by simp⟩
  | p :: H, h, K, hk => by
    have hk : okK (Nat.blt p.1 b) (match p.2 with
      | .dat sz r => match hAt h (ρ p.1) with
        | some (.dat sz' r') => okK (Nat.beq sz' sz) (CB (r' = r) (subH ρ b H h K))
        | _ => CB (r = []) (subH ρ b H h K)
      | B => match hAt h (ρ p.1) with
        | some B' => okK (ltAll b (namesB B)) (CB (B' = renB ρ B) (subH ρ b H h K))
        | none => False) := hk
    obtain ⟨e1, hk⟩ := okK_of hk
    have e1 : p.1 < b := by simpa [Nat.blt_eq] using e1
    obtain ⟨n, B⟩ := p
    dsimp only at hk e1
    have fin : ∀ {K : Prop}, subH ρ b H h K → (B.Below (Lt b) ∧ (hAt h (ρ n) = some (renB ρ B) ∨ B.real = false)) → K ∧ ∀ p ∈ (n, B) :: H, p.1 < b ∧ p.2.Below (Lt b) ∧ (hAt h (ρ p.1) = some (renB ρ p.2) ∨ p.2.real = false) := by
      intro K hk hB
      obtain ⟨h1, h2⟩ := subH_of hk
      refine ⟨h1, fun p hp => ?_⟩
      rcases List.mem_cons.1 hp with rfl | hp
      · exact ⟨e1, hB⟩
      · exact h2 p hp
    split at hk
    · next sz r =>
      split at hk
      · next sz' r' hr =>
        obtain ⟨e2, hk⟩ := okK_of hk
        obtain ⟨e3, hk⟩ := hk
        exact fin hk ⟨trivial, .inl (by rw [hr, Nat.eq_of_beq_eq_true e2, e3]; rfl)⟩
      · obtain ⟨e3, hk⟩ := hk
        subst e3
        exact fin hk ⟨trivial, .inr rfl⟩
    · split at hk
      · next B' hr =>
        obtain ⟨e2, hk⟩ := okK_of hk
        obtain ⟨e3, hk⟩ := hk
        exact fin hk ⟨ltAll_belowB e2, .inl (by rw [hr, e3])⟩
      · cases hk
theorem noTwice_nodup : ∀ {l : List Nat}, noTwice l = true → l.Nodup
  | [], _ => List.nodup_nil
  | x :: xs, h => by
    simp only [noTwice, Bool.and_eq_true, Bool.not_eq_true', List.contains_eq_mem, decide_eq_false_iff_not] at h
    exact List.nodup_cons.2 ⟨h.1, noTwice_nodup h.2⟩
theorem nodup_inj {α : Type} {f : α → Nat} : ∀ {l : List α}, (l.map f).Nodup → ∀ a ∈ l, ∀ b ∈ l, f a = f b → a = b
  | [], _, a, ha, _, _, _ => by simp at ha
  | x :: xs, h, a, ha, b, hb, e => by
    rw [List.map_cons, List.nodup_cons] at h
    rcases List.mem_cons.1 ha with ea | ha'
    · rcases List.mem_cons.1 hb with eb | hb'
      · rw [ea, eb]
      · exact (h.1 (by rw [← ea, e]; exact List.mem_map_of_mem hb')).elim
    · rcases List.mem_cons.1 hb with eb | hb'
      · exact (h.1 (by rw [← eb, ← e]; exact List.mem_map_of_mem ha')).elim
      · exact nodup_inj h.2 a ha' b hb' e
theorem hAt_mem : ∀ {l : List (Nat × B)} {n : Nat} {b : B}, hAt l n = some b → (n, b) ∈ l
  | [], n, b, h => by cases h
  | p :: l, n, b, h => by
    simp only [hAt] at h
    split at h
    · next e =>
      have e := Nat.eq_of_beq_eq_true e
      obtain ⟨p1, p2⟩ := p
      dsimp only at e h
      subst e; cases h
      simp
    · exact List.mem_cons_of_mem _ (hAt_mem h)

theorem subK_of {ρ : List (Nat × Nat)} {N b b' : Nat} {T t : List V} {H h : List (Nat × B)} (hk : subK ρ N b T H t h) : Sub (Lt N) ⟨tAt t, hAt h, b', t.length⟩ ⟨tAt T, hAt H, b, T.length⟩ ∧ T.length = t.length := by
  obtain ⟨e1, hk⟩ := okK_of hk
  obtain ⟨e2, hk⟩ := okK_of hk
  obtain ⟨hk, hlen, hT⟩ := subT_of hk
  obtain ⟨_, hH⟩ := subH_of hk
  refine ⟨?_, hlen⟩
  have hren : Ren (ren1 ρ) (hAt h) (hAt H) (Lt b) := by
    refine ⟨fun n c hn => (hH _ (hAt_mem hn)).2.2, fun n m c d hn hm _ _ e => ?_, fun n c hn => ⟨(hH _ (hAt_mem hn)).1, (hH _ (hAt_mem hn)).2.1⟩⟩
    exact congrArg Prod.fst (nodup_inj (f := fun p : Nat × B => ren1 ρ p.1) (noTwice_nodup e2) _ (hAt_mem hn) _ (hAt_mem hm) e)
  intro F ids w a hr
  refine ⟨fun n => ids (ren1 ρ n), ⟨hren.heap hr.heap, fun i => ?_, by rw [hlen]; exact hr.size, fun i hi => ?_, fun i => (hT i).1, hr.defers⟩, ⟨Goes.refl _ _, fun b _ x => ?_, fun n hn => by rw [ren1_id e1 hn]⟩⟩
  · rcases (hT i).2 with e | e | ⟨e, n, sz, e'⟩
    · show RepV _ _ _ (tAt T i) _
      rw [e]; exact .un _
    · have := hr.tmps i
      rw [show (⟨tAt t, hAt h, b', t.length⟩ : St).t i = renV (ren1 ρ) (tAt T i) from e] at this
      exact ren_rep (fun b x => hren.avoid b x) (tAt T i) _ this
    · have := hr.tmps i
      rw [show (⟨tAt t, hAt h, b', t.length⟩ : St).t i = .c (.slice none 0 0) from e] at this
      show RepV _ _ _ (tAt T i) _
      rw [e']
      generalize a.tmps.getD i undef = q at this
      cases this
      exact .ac0 _ _ _
  · show tAt T i = .un
    have : ∀ (l : List V) (i : Nat), l.length ≤ i → tAt l i = .un := by
      intro l
      induction l with
      | nil => intro i _; rfl
      | cons x l ih =>
        intro i hi
        cases i with
        | zero => simp at hi
        | succ i => exact ih i (by simpa using hi)
    exact this T i hi
  · obtain ⟨n, c, hn, hcr, hb⟩ := x
    exact ⟨ren1 ρ n, _, hren.real hn hcr, by rw [renB_real]; exact hcr, hb⟩

/-! ### loops -/
/-- only the slots of l -/
def keepT : Nat → List Nat → List V → List V
  | _, _, [] => []
  | i, l, x :: t => (match l.contains i with | true => x | false => .un) :: keepT (i + 1) l t
def putsT : List (Nat × V) → List V → List V
  | [], t => t
  | p :: l, t => putsT l (t.set p.1 p.2)
def keepH (l : List Nat) : List (Nat × B) → List (Nat × B)
  | [] => []
  | p :: h => match l.contains p.1 with
    | true => p :: keepH l h
    | false => keepH l h
theorem keepT_len : ∀ (i : Nat) (l : List Nat) (t : List V), (keepT i l t).length = t.length
  | _, _, [] => rfl
  | i, l, x :: t => by simp [keepT, keepT_len]
theorem putsT_len : ∀ (l : List (Nat × V)) (t : List V), (putsT l t).length = t.length
  | [], _ => rfl
  | p :: l, t => by simp [putsT, putsT_len]
/-- the round is done: the next one begins in the state of y -/
inductive NextB {α : Type} (I : α → Prop) (μ : α → Nat) (x : α) (N b : Nat) (T : α → List V) (H : α → List (Nat × B)) (t : List V) (h : List (Nat × B)) : Prop
  | mk (ρ : List (Nat × Nat)) (y : α) (hI : I y) (hμ : μ y < μ x) (hs : subK ρ N b (T y) (H y) t h) : NextB I μ x N b T H t h
section
variable {P : Program} {tab : Tab}
/-- a round, begun in the state T, H -/
noncomputable def roundK {α : Type} (P : Program) (tab : Tab) (N : Nat) (c : Code) (b : Nat) (K : Ex → List V → List (Nat × B) → Nat → Prop) (I : α → Prop) (μ : α → Nat) (T : α → List V) (H : α → List (Nat × B)) (x : α) : Prop :=
  headsK (T x) fun t => listK (H x) fun h => codeK P tab N c t h b fun e t' h' b' => match e with
    | .normal => NextB I μ x N b T H t' h'
    | .exit i => K (.exit i) t' h' b'
    | .ret => K .ret t' h' b'
theorem loopB_gen (ht : TabOk P tab) (hmix : P.follows .mixedOrders = true) {α : Type} {N : Nat} {c : Code} {t : List V} {h : List (Nat × B)} {b : Nat} {K : Ex → List V → List (Nat × B) → Nat → Prop}
    (T : α → List V) (H : α → List (Nat × B)) (I : α → Prop) (μ : α → Nat) (ρ : List (Nat × Nat)) (x : α) (hb : N ≤ b) (hl : ∀ x, (T x).length = t.length) (h0 : I x) (hs : subK ρ N b (T x) (H x) t h)
    (round : ∀ x, I x → roundK P tab N c b K I μ T H x) : LoopB P tab N c t h b K := by
  refine ⟨hb, ?_⟩
  obtain ⟨hs, hs2⟩ := subK_of (b' := b) hs
  refine AWP.sub hs ?_
  refine awp_loop (fun x => ⟨tAt (T x), hAt (H x), b, (T x).length⟩) I μ (fun x hx => ?_) h0
  have hr := listK_of (headsK_of (round x hx))
  refine AWP.mono (codeK_of ht hmix c _ _ b _ hb hr) ?_
  rintro e s ⟨t', h', b', rfl, e1, hb', hk⟩
  cases e with
  | normal =>
    obtain ⟨ρ, y, hI, hμ, hs⟩ := hk
    exact ⟨y, hI, hμ, (subK_of hs).1⟩
  | exit i => exact ⟨t', h', b', rfl, by rw [e1, hl], hb', hk⟩
  | ret => exact ⟨t', h', b', rfl, by rw [e1, hl], hb', hk⟩
/-- a loop: the slots ks and the blocks kh are kept, those of ch and hc change -/
theorem loopB (ht : TabOk P tab) (hmix : P.follows .mixedOrders = true) {α : Type} {N : Nat} {c : Code} {t : List V} {h : List (Nat × B)} {b : Nat} {K : Ex → List V → List (Nat × B) → Nat → Prop}
    (ks : List Nat) (kh : List Nat) (ch : α → List (Nat × V)) (hc : α → List (Nat × B)) (I : α → Prop) (μ : α → Nat) (ρ : List (Nat × Nat)) (x : α) (hb : Nat.ble N b = true) (h0 : I x)
    (hs : subK ρ N b (putsT (ch x) (keepT 0 ks t)) (hc x ++ keepH kh h) t h)
    (round : ∀ x, I x → roundK P tab N c b K I μ (fun x => putsT (ch x) (keepT 0 ks t)) (fun x => hc x ++ keepH kh h) x) : LoopB P tab N c t h b K :=
  loopB_gen ht hmix _ _ I μ ρ x (Nat.le_of_ble_eq_true hb) (fun x => by rw [putsT_len, keepT_len]) h0 hs round
/-- the same with 2 running things -/
inductive NextB2 {α β : Type} (I : α → β → Prop) (μ : α → β → Nat) (m0 : Nat) (N b : Nat) (T : α → β → List V) (H : α → β → List (Nat × B)) (t : List V) (h : List (Nat × B)) : Prop
  | mk (ρ : List (Nat × Nat)) (x : α) (y : β) (hI : I x y) (hμ : μ x y < m0) (hs : subK ρ N b (T x y) (H x y) t h) : NextB2 I μ m0 N b T H t h
noncomputable def roundK2 {α β : Type} (P : Program) (tab : Tab) (N : Nat) (c : Code) (b : Nat) (K : Ex → List V → List (Nat × B) → Nat → Prop) (I : α → β → Prop) (μ : α → β → Nat) (T : α → β → List V) (H : α → β → List (Nat × B)) (x : α) (y : β) : Prop :=
  headsK (T x y) fun t => listK (H x y) fun h => codeK P tab N c t h b fun e t' h' b' => match e with
    | .normal => NextB2 I μ (μ x y) N b T H t' h'
    | .exit i => K (.exit i) t' h' b'
    | .ret => K .ret t' h' b'
theorem loopB2 (ht : TabOk P tab) (hmix : P.follows .mixedOrders = true) {α β : Type} {N : Nat} {c : Code} {t : List V} {h : List (Nat × B)} {b : Nat} {K : Ex → List V → List (Nat × B) → Nat → Prop}
    (ks : List Nat) (kh : List Nat) (ch : α → β → List (Nat × V)) (hc : α → β → List (Nat × B)) (I : α → β → Prop) (μ : α → β → Nat) (ρ : List (Nat × Nat)) (x : α) (y : β) (hb : Nat.ble N b = true) (h0 : I x y)
    (hs : subK ρ N b (putsT (ch x y) (keepT 0 ks t)) (hc x y ++ keepH kh h) t h)
    (round : ∀ (x : α) (y : β), I x y → roundK2 P tab N c b K I μ (fun x y => putsT (ch x y) (keepT 0 ks t)) (fun x y => hc x y ++ keepH kh h) x y) : LoopB P tab N c t h b K := by
  have hb := Nat.le_of_ble_eq_true hb
  refine ⟨hb, ?_⟩
  obtain ⟨hs, hs2⟩ := subK_of (b' := b) hs
  refine AWP.sub hs ?_
  refine awp_loop (α := α × β) (fun p => ⟨tAt (putsT (ch p.1 p.2) (keepT 0 ks t)), hAt (hc p.1 p.2 ++ keepH kh h), b, (putsT (ch p.1 p.2) (keepT 0 ks t)).length⟩) (fun p => I p.1 p.2) (fun p => μ p.1 p.2) (fun p hx => ?_) (x := (x, y)) h0
  have hr := listK_of (headsK_of (round p.1 p.2 hx))
  refine AWP.mono (codeK_of ht hmix c _ _ b _ hb hr) ?_
  rintro e s ⟨t', h', b', rfl, e1, hb', hk⟩
  cases e with
  | normal =>
    obtain ⟨ρ, x', y', hI, hμ, hs⟩ := hk
    exact ⟨(x', y'), hI, hμ, (subK_of hs).1⟩
  | exit i => exact ⟨t', h', b', rfl, by rw [e1, putsT_len, keepT_len], hb', hk⟩
  | ret => exact ⟨t', h', b', rfl, by rw [e1, putsT_len, keepT_len], hb', hk⟩
/-- the same with 3 running things -/
inductive NextB3 {α β γ : Type} (I : α → β → γ → Prop) (μ : α → β → γ → Nat) (m0 : Nat) (N b : Nat) (T : α → β → γ → List V) (H : α → β → γ → List (Nat × B)) (t : List V) (h : List (Nat × B)) : Prop
  | mk (ρ : List (Nat × Nat)) (x : α) (y : β) (z : γ) (hI : I x y z) (hμ : μ x y z < m0) (hs : subK ρ N b (T x y z) (H x y z) t h) : NextB3 I μ m0 N b T H t h
noncomputable def roundK3 {α β γ : Type} (P : Program) (tab : Tab) (N : Nat) (c : Code) (b : Nat) (K : Ex → List V → List (Nat × B) → Nat → Prop) (I : α → β → γ → Prop) (μ : α → β → γ → Nat) (T : α → β → γ → List V) (H : α → β → γ → List (Nat × B)) (x : α) (y : β) (z : γ) : Prop :=
  headsK (T x y z) fun t => listK (H x y z) fun h => codeK P tab N c t h b fun e t' h' b' => match e with
    | .normal => NextB3 I μ (μ x y z) N b T H t' h'
    | .exit i => K (.exit i) t' h' b'
    | .ret => K .ret t' h' b'
theorem loopB3 (ht : TabOk P tab) (hmix : P.follows .mixedOrders = true) {α β γ : Type} {N : Nat} {c : Code} {t : List V} {h : List (Nat × B)} {b : Nat} {K : Ex → List V → List (Nat × B) → Nat → Prop}
    (ks : List Nat) (kh : List Nat) (ch : α → β → γ → List (Nat × V)) (hc : α → β → γ → List (Nat × B)) (I : α → β → γ → Prop) (μ : α → β → γ → Nat) (ρ : List (Nat × Nat)) (x : α) (y : β) (z : γ) (hb : Nat.ble N b = true) (h0 : I x y z)
    (hs : subK ρ N b (putsT (ch x y z) (keepT 0 ks t)) (hc x y z ++ keepH kh h) t h)
    (round : ∀ (x : α) (y : β) (z : γ), I x y z → roundK3 P tab N c b K I μ (fun x y z => putsT (ch x y z) (keepT 0 ks t)) (fun x y z => hc x y z ++ keepH kh h) x y z) : LoopB P tab N c t h b K := by
  have hb := Nat.le_of_ble_eq_true hb
  refine ⟨hb, ?_⟩
  obtain ⟨hs, hs2⟩ := subK_of (b' := b) hs
  refine AWP.sub hs ?_
  refine awp_loop (α := α × β × γ) (fun p => ⟨tAt (putsT (ch p.1 p.2.1 p.2.2) (keepT 0 ks t)), hAt (hc p.1 p.2.1 p.2.2 ++ keepH kh h), b, (putsT (ch p.1 p.2.1 p.2.2) (keepT 0 ks t)).length⟩) (fun p => I p.1 p.2.1 p.2.2) (fun p => μ p.1 p.2.1 p.2.2) (fun p hx => ?_) (x := (x, y, z)) h0
  have hr := listK_of (headsK_of (round p.1 p.2.1 p.2.2 hx))
  refine AWP.mono (codeK_of ht hmix c _ _ b _ hb hr) ?_
  rintro e s ⟨t', h', b', rfl, e1, hb', hk⟩
  cases e with
  | normal =>
    obtain ⟨ρ, x', y', z', hI, hμ, hs⟩ := hk
    exact ⟨(x', y', z'), hI, hμ, (subK_of hs).1⟩
  | exit i => exact ⟨t', h', b', rfl, by rw [e1, putsT_len, keepT_len], hb', hk⟩
  | ret => exact ⟨t', h', b', rfl, by rw [e1, putsT_len, keepT_len], hb', hk⟩
/-- the same with 4 running things -/
inductive NextB4 {α β γ δ : Type} (I : α → β → γ → δ → Prop) (μ : α → β → γ → δ → Nat) (m0 : Nat) (N b : Nat) (T : α → β → γ → δ → List V) (H : α → β → γ → δ → List (Nat × B)) (t : List V) (h : List (Nat × B)) : Prop
  | mk (ρ : List (Nat × Nat)) (x : α) (y : β) (z : γ) (u : δ) (hI : I x y z u) (hμ : μ x y z u < m0) (hs : subK ρ N b (T x y z u) (H x y z u) t h) : NextB4 I μ m0 N b T H t h
noncomputable def roundK4 {α β γ δ : Type} (P : Program) (tab : Tab) (N : Nat) (c : Code) (b : Nat) (K : Ex → List V → List (Nat × B) → Nat → Prop) (I : α → β → γ → δ → Prop) (μ : α → β → γ → δ → Nat) (T : α → β → γ → δ → List V) (H : α → β → γ → δ → List (Nat × B)) (x : α) (y : β) (z : γ) (u : δ) : Prop :=
  headsK (T x y z u) fun t => listK (H x y z u) fun h => codeK P tab N c t h b fun e t' h' b' => match e with
    | .normal => NextB4 I μ (μ x y z u) N b T H t' h'
    | .exit i => K (.exit i) t' h' b'
    | .ret => K .ret t' h' b'
theorem loopB4 (ht : TabOk P tab) (hmix : P.follows .mixedOrders = true) {α β γ δ : Type} {N : Nat} {c : Code} {t : List V} {h : List (Nat × B)} {b : Nat} {K : Ex → List V → List (Nat × B) → Nat → Prop}
    (ks : List Nat) (kh : List Nat) (ch : α → β → γ → δ → List (Nat × V)) (hc : α → β → γ → δ → List (Nat × B)) (I : α → β → γ → δ → Prop) (μ : α → β → γ → δ → Nat) (ρ : List (Nat × Nat)) (x : α) (y : β) (z : γ) (u : δ) (hb : Nat.ble N b = true) (h0 : I x y z u)
    (hs : subK ρ N b (putsT (ch x y z u) (keepT 0 ks t)) (hc x y z u ++ keepH kh h) t h)
    (round : ∀ (x : α) (y : β) (z : γ) (u : δ), I x y z u → roundK4 P tab N c b K I μ (fun x y z u => putsT (ch x y z u) (keepT 0 ks t)) (fun x y z u => hc x y z u ++ keepH kh h) x y z u) : LoopB P tab N c t h b K := by
  have hb := Nat.le_of_ble_eq_true hb
  refine ⟨hb, ?_⟩
  obtain ⟨hs, hs2⟩ := subK_of (b' := b) hs
  refine AWP.sub hs ?_
  refine awp_loop (α := α × β × γ × δ) (fun p => ⟨tAt (putsT (ch p.1 p.2.1 p.2.2.1 p.2.2.2) (keepT 0 ks t)), hAt (hc p.1 p.2.1 p.2.2.1 p.2.2.2 ++ keepH kh h), b, (putsT (ch p.1 p.2.1 p.2.2.1 p.2.2.2) (keepT 0 ks t)).length⟩) (fun p => I p.1 p.2.1 p.2.2.1 p.2.2.2) (fun p => μ p.1 p.2.1 p.2.2.1 p.2.2.2) (fun p hx => ?_) (x := (x, y, z, u)) h0
  have hr := listK_of (headsK_of (round p.1 p.2.1 p.2.2.1 p.2.2.2 hx))
  refine AWP.mono (codeK_of ht hmix c _ _ b _ hb hr) ?_
  rintro e s ⟨t', h', b', rfl, e1, hb', hk⟩
  cases e with
  | normal =>
    obtain ⟨ρ, x', y', z', u', hI, hμ, hs⟩ := hk
    exact ⟨(x', y', z', u'), hI, hμ, (subK_of hs).1⟩
  | exit i => exact ⟨t', h', b', rfl, by rw [e1, putsT_len, keepT_len], hb', hk⟩
  | ret => exact ⟨t', h', b', rfl, by rw [e1, putsT_len, keepT_len], hb', hk⟩
end
end Go.Proofs.Ytepepidjefpckaa.Abs
