/- The abstract machine, part 21: other names; loops by the states that their rounds begin in. -/
import Derived.Test.YtmihhkcbbdpnaaaC5
namespace Go.Proofs.Ytmihhkcbbdpnaaa.Abs
set_option linter.unusedVariables false
set_option linter.unusedSimpArgs false

mutual
def renV (ρ : Nat → Nat) : V → V
  | .un => .un
  | .c v => .c v
  | .lst sz rows cl => .lst sz rows cl
  | .q row j => .q row j
  | .sl n sz off len => .sl (ρ n) sz off len
  | .ac n sz len => .ac (ρ n) sz len
  | .sx n sz off len cap => .sx (ρ n) sz off len cap
  | .p n sz i j => .p (ρ n) sz i j
  | .mp n => .mp (ρ n)
  | .agg xs => .agg (renVs ρ xs)
  | .tup xs => .tup (renVs ρ xs)
  | .fn f a b => .fn f (renVs ρ a) (renVs ρ b)
  | .ifc t x => .ifc t (renV ρ x)
def renVs (ρ : Nat → Nat) : List V → List V
  | [] => []
  | x :: xs => renV ρ x :: renVs ρ xs
end
theorem renVs_map (ρ : Nat → Nat) : ∀ xs, renVs ρ xs = xs.map (renV ρ)
  | [] => rfl
  | x :: xs => by rw [renVs, renVs_map ρ xs, List.map_cons]
theorem renV_toV (ρ : Nat → Nat) (d : D) : renV ρ d.toV = d.toV := by cases d <;> rfl
def renB (ρ : Nat → Nat) : B → B
  | .rows sz r => .rows sz (r.map (renVs ρ))
  | .dat sz r => .dat sz r
  | .map es => .map (es.map fun e => (e.1, renV ρ e.2))
theorem renB_real (ρ : Nat → Nat) (b : B) : (renB ρ b).real = b.real := by
  cases b with
  | dat sz r => rfl
  | _ => rfl

section
variable {A A' : Nat → Prop} {w : World}
mutual
theorem ren_rep {ids : Nat → Nat × Nat} {ρ : Nat → Nat} (hA : ∀ b, A' b → A b) : ∀ (x : V) (v : Value), RepV A ids w (renV ρ x) v → RepV A' (fun n => ids (ρ n)) w x v
  | .un, v, _ => .un v
  | .c u, v, h => by rw [renV] at h; cases h; exact .c _
  | .lst sz rows cl, v, h => by
    rw [renV] at h
    cases h with | lst _ _ _ _ hd hcl => exact .lst _ _ _ _ (hd.mono (Goes.refl A w) fun b _ x => hA b x) hcl
  | .q row j, v, h => by
    rw [renV] at h
    cases h with | q _ _ b o cell hb hn hc hd => exact .q row j b o cell hb (fun x => hn (hA b x)) hc fun k d hk => (hd k d hk).mono (Goes.refl A w) fun b _ x => hA b x
  | .sl n sz off len, v, h => by
    rw [renV] at h
    cases h with | sl _ _ _ _ cap ad hl hc => exact .sl _ _ _ _ cap ad hl hc
  | .ac n sz len, v, h => by
    rw [renV] at h
    cases h with
    | ac0 => exact .ac0 ..
    | ac1 _ _ _ _ h0 h => cases h with | sl _ _ _ _ cap ad hl hc => exact .ac1 _ _ _ _ h0 (.sl _ _ _ _ cap ad hl hc)
  | .sx n sz off len cap, v, h => by
    rw [renV] at h
    cases h with | sx _ _ _ _ _ ad hl hc => exact .sx _ _ _ _ _ ad hl hc
  | .p n sz i j, v, h => by
    rw [renV] at h
    cases h; exact RepV.p (ids := fun n => ids (ρ n)) ..
  | .mp n, v, h => by
    rw [renV] at h
    cases h; exact RepV.mp (ids := fun n => ids (ρ n)) ..
  | .agg xs, v, h => by
    rw [renV] at h
    cases h with | agg _ arr hs hx => exact .agg xs arr (by rw [hs, renVs_map, List.length_map]) fun i x v hi hv => ren_reps hA xs i x v hi (hx i (renV ρ x) v (by rw [renVs_map, List.getElem?_map, hi]; rfl) hv)
  | .tup xs, v, h => by
    rw [renV] at h
    cases h with | tup _ arr hs hx => exact .tup xs arr (by rw [hs, renVs_map, List.length_map]) fun i x v hi hv => ren_reps hA xs i x v hi (hx i (renV ρ x) v (by rw [renVs_map, List.getElem?_map, hi]; rfl) hv)
  | .fn f xs ys, v, h => by
    rw [renV] at h
    cases h with
    | fn _ _ _ ar br h1 h2 h3 h4 =>
      exact .fn f xs ys ar br (by rw [h1, renVs_map, List.length_map]) (by rw [h2, renVs_map, List.length_map])
        (fun i x v hi hv => ren_reps hA xs i x v hi (h3 i (renV ρ x) v (by rw [renVs_map, List.getElem?_map, hi]; rfl) hv))
        (fun i x v hi hv => ren_reps hA ys i x v hi (h4 i (renV ρ x) v (by rw [renVs_map, List.getElem?_map, hi]; rfl) hv))
  | .ifc t x, v, h => by
    rw [renV] at h
    cases h with | ifc _ _ u hu => exact .ifc t x u (ren_rep hA x u hu)
theorem ren_reps {ids : Nat → Nat × Nat} {ρ : Nat → Nat} (hA : ∀ b, A' b → A b) : ∀ (xs : List V) (i : Nat) (x : V) (v : Value), xs[i]? = some x → RepV A ids w (renV ρ x) v → RepV A' (fun n => ids (ρ n)) w x v
  | [], i, x, v, h, _ => by simp at h
  | y :: ys, 0, x, v, h, hr => by simp at h; subst h; exact ren_rep hA y v hr
  | y :: ys, i + 1, x, v, h, hr => ren_reps hA ys i x v (by simpa using h) hr
end

theorem ren_repB {ids : Nat → Nat × Nat} {ρ : Nat → Nat} (hA : ∀ b, A' b → A b) {p : Nat × Nat} {b : B} (h : RepB A ids w p (renB ρ b)) : RepB A' (fun n => ids (ρ n)) w p b := by
  cases b with
  | dat sz r =>
    refine ⟨fun hr => ?_, h.2⟩
    obtain ⟨arr, T, h1, h2, h3, h4⟩ := h.1 hr
    refine ⟨arr, T, h1, h2, h3, fun i row j x hr hx => ?_⟩
    obtain ⟨v, hv, hrep⟩ := h4 i row j x hr hx
    refine ⟨v, hv, ren_rep hA x v ?_⟩
    rw [toVs_get, Option.map_eq_some_iff] at hr
    obtain ⟨rd, _, rfl⟩ := hr
    rw [List.getElem?_map, Option.map_eq_some_iff] at hx
    obtain ⟨d, _, rfl⟩ := hx
    rw [renV_toV]; exact hrep
  | rows sz r =>
    obtain ⟨arr, T, h1, h2, h3, h4⟩ := h
    refine ⟨arr, T, h1, by simpa using h2, fun row hr => ?_, fun i row j x hr hx => ?_⟩
    · have := h3 (renVs ρ row) (List.mem_map_of_mem hr)
      rw [renVs_map, List.length_map] at this; exact this
    · obtain ⟨v, hv, hrep⟩ := h4 i (renVs ρ row) j (renV ρ x) (by rw [List.getElem?_map, hr]; rfl) (by rw [renVs_map, List.getElem?_map, hx]; rfl)
      exact ⟨v, hv, ren_rep hA x v hrep⟩
  | map es =>
    obtain ⟨ar, k, h1, h2, h3⟩ := h
    refine ⟨ar, k, h1, by simpa using h2, fun i e m he hm => ?_⟩
    obtain ⟨e1, e2⟩ := h3 i (e.1, renV ρ e.2) m (by rw [List.getElem?_map, he]; rfl) hm
    exact ⟨e1, ren_rep hA _ _ e2⟩

theorem rep_ren {ids ids2 : Nat → Nat × Nat} {σ : Nat → Nat} {M : Nm} (hA : ∀ b, b < w.heap.size → A' b → A b) (hi : ∀ k, M k → ids2 (σ k) = ids k) {x : V} {v : Value} (h : RepV A ids w x v) (hb : x.Below M) : RepV A' ids2 w (renV σ x) v := by
  have hg := Goes.refl A w
  induction h with
  | un v => rw [renV]; exact .un v
  | c v => rw [renV]; exact .c v
  | lst sz rows clip v h hcl => rw [renV]; exact .lst _ _ _ _ (h.mono hg hA) hcl
  | sl n sz off len cap ad hl hc =>
    cases hb with
    | sl _ _ _ _ hn => rw [renV]; exact .sl _ _ _ _ cap ad hl (by rw [hi n hn]; exact hc)
  | sx n sz off len cap ad hl hc =>
    cases hb with
    | sx _ _ _ _ _ hn => rw [renV]; exact .sx _ _ _ _ _ ad hl (by rw [hi n hn]; exact hc)
  | ac0 n sz ad => rw [renV]; exact .ac0 ..
  | ac1 n sz len v h0 h ih =>
    cases hb with
    | ac _ _ _ hn =>
      have := ih (.sl _ _ _ _ hn)
      rw [renV] at this
      rw [renV]
      exact .ac1 _ _ _ _ h0 this
  | p n sz i j =>
    cases hb with
    | p _ _ _ _ hn => rw [renV, ← hi n hn]; exact .p ..
  | q row j b o cell hb' hn hc hd => rw [renV]; exact .q row j b o cell hb' (fun x => hn (hA b hb' x)) hc fun k d hk => (hd k d hk).mono hg hA
  | agg xs arr hs h ih =>
    cases hb with
    | agg _ hx =>
      rw [renV, renVs_map]
      refine .agg _ _ (by rw [hs, List.length_map]) fun i x v h1 h2 => ?_
      rw [List.getElem?_map, Option.map_eq_some_iff] at h1
      obtain ⟨y, hy, rfl⟩ := h1
      exact ih i y v hy h2 (hx y (List.mem_of_getElem? hy))
  | tup xs arr hs h ih =>
    cases hb with
    | tup _ hx =>
      rw [renV, renVs_map]
      refine .tup _ _ (by rw [hs, List.length_map]) fun i x v h1 h2 => ?_
      rw [List.getElem?_map, Option.map_eq_some_iff] at h1
      obtain ⟨y, hy, rfl⟩ := h1
      exact ih i y v hy h2 (hx y (List.mem_of_getElem? hy))
  | fn f xs ys ar br hs hs' h h' ih ih' =>
    cases hb with
    | fn _ _ _ hx hx' =>
      rw [renV, renVs_map, renVs_map]
      refine .fn f _ _ ar br (by rw [hs, List.length_map]) (by rw [hs', List.length_map]) (fun i x v h1 h2 => ?_) (fun i x v h1 h2 => ?_)
      · rw [List.getElem?_map, Option.map_eq_some_iff] at h1
        obtain ⟨y, hy, rfl⟩ := h1
        exact ih i y v hy h2 (hx y (List.mem_of_getElem? hy))
      · rw [List.getElem?_map, Option.map_eq_some_iff] at h1
        obtain ⟨y, hy, rfl⟩ := h1
        exact ih' i y v hy h2 (hx' y (List.mem_of_getElem? hy))
  | ifc t x v h ih =>
    cases hb with
    | ifc _ _ hx => rw [renV]; exact .ifc _ _ _ (ih hx)
  | mp n =>
    cases hb with
    | mp _ hn => rw [renV, ← hi n hn]; exact .mp ..

theorem rep_renB {ids ids2 : Nat → Nat × Nat} {σ : Nat → Nat} {M : Nm} (hA : ∀ b, b < w.heap.size → A' b → A b) (hi : ∀ k, M k → ids2 (σ k) = ids k) {p : Nat × Nat} {b : B} (h : RepB A ids w p b) (hb : b.Below M) : RepB A' ids2 w p (renB σ b) := by
  cases b with
  | dat sz r =>
    refine ⟨fun hr => ?_, h.2⟩
    obtain ⟨arr, T, h1, h2, h3, h4⟩ := h.1 hr
    refine ⟨arr, T, h1, h2, h3, fun i row j x hr hx => ?_⟩
    obtain ⟨v, hv, hrep⟩ := h4 i row j x hr hx
    have := rep_ren hA hi hrep (toVs_below M r row (List.mem_of_getElem? hr) x (List.mem_of_getElem? hx))
    rw [toVs_get, Option.map_eq_some_iff] at hr
    obtain ⟨rd, _, rfl⟩ := hr
    rw [List.getElem?_map, Option.map_eq_some_iff] at hx
    obtain ⟨d, _, rfl⟩ := hx
    rw [renV_toV] at this
    exact ⟨v, hv, this⟩
  | rows sz r =>
    obtain ⟨arr, T, h1, h2, h3, h4⟩ := h
    refine ⟨arr, T, h1, by simpa using h2, fun row hr => ?_, fun i row j x hr hx => ?_⟩
    · obtain ⟨row', hr', rfl⟩ := List.mem_map.1 hr
      rw [renVs_map, List.length_map]; exact h3 row' hr'
    · rw [List.getElem?_map, Option.map_eq_some_iff] at hr
      obtain ⟨row', hr', rfl⟩ := hr
      rw [renVs_map, List.getElem?_map, Option.map_eq_some_iff] at hx
      obtain ⟨y, hy, rfl⟩ := hx
      obtain ⟨v, hv, hrep⟩ := h4 i row' j y hr' hy
      exact ⟨v, hv, rep_ren hA hi hrep (hb row' (List.mem_of_getElem? hr') y (List.mem_of_getElem? hy))⟩
  | map es =>
    obtain ⟨ar, k, h1, h2, h3⟩ := h
    refine ⟨ar, k, h1, by simpa using h2, fun i e m he hm => ?_⟩
    rw [List.getElem?_map, Option.map_eq_some_iff] at he
    obtain ⟨e', he', rfl⟩ := he
    obtain ⟨e1, e2⟩ := h3 i e' m he' hm
    exact ⟨e1, rep_ren hA hi e2 (hb e' (List.mem_of_getElem? he'))⟩
end

/-! ### values that say no more than others -/
/-- v says no more of a value than u does; blocks of which X does not hold are given up -/
def Wk (h : Hp) (X : Nat → Prop) (ρ : Nat → Nat) (v u : V) : Prop :=
  ∀ (F A' : Nat → Prop) (ids : Nat → Nat × Nat) (w : World) (M : Nm), RepH F ids w h M → (∀ b, A' b → Avoid F h ids b) → (∀ n x, h n = some x → x.real = true → ¬ X n → ¬ A' (ids n).1) →
    ∀ x, RepV (Avoid F h ids) ids w u x → RepV A' (fun n => ids (ρ n)) w v x
def WkB (h : Hp) (X : Nat → Prop) (ρ : Nat → Nat) (b b' : B) : Prop :=
  b'.real = b.real ∧ ∀ (F A' : Nat → Prop) (ids : Nat → Nat × Nat) (w : World) (M : Nm), RepH F ids w h M → (∀ b, A' b → Avoid F h ids b) → (∀ n x, h n = some x → x.real = true → ¬ X n → ¬ A' (ids n).1) →
    ∀ p, RepB (Avoid F h ids) ids w p b' → RepB A' (fun n => ids (ρ n)) w p b
theorem Wk.ren {h : Hp} {X : Nat → Prop} (ρ : Nat → Nat) (v : V) : Wk h X ρ v (renV ρ v) := fun F A' ids w M _ hA _ x hx => ren_rep hA v x hx
theorem Wk.un {h : Hp} {X : Nat → Prop} {ρ : Nat → Nat} {u : V} : Wk h X ρ .un u := fun F A' ids w M _ _ _ x _ => .un x
theorem Wk.agg {h : Hp} {X : Nat → Prop} {ρ : Nat → Nat} {xs us : List V} (hl : xs.length = us.length) (hx : ∀ (i : Nat) (v u : V), xs[i]? = some v → us[i]? = some u → Wk h X ρ v u) : Wk h X ρ (.agg xs) (.agg us) := by
  intro F A' ids w M hh hA hX x hr
  cases hr with
  | agg _ arr hs hr =>
    refine .agg _ _ (by rw [hs, hl]) fun i v y hv hy => ?_
    have hi : i < us.length := by rw [← hl]; exact (List.getElem?_eq_some_iff.1 hv).1
    exact hx i v us[i] hv (by simp [hi]) F A' ids w M hh hA hX y (hr i us[i] y (by simp [hi]) hy)
theorem Wk.tup {h : Hp} {X : Nat → Prop} {ρ : Nat → Nat} {xs us : List V} (hl : xs.length = us.length) (hx : ∀ (i : Nat) (v u : V), xs[i]? = some v → us[i]? = some u → Wk h X ρ v u) : Wk h X ρ (.tup xs) (.tup us) := by
  intro F A' ids w M hh hA hX x hr
  cases hr with
  | tup _ arr hs hr =>
    refine .tup _ _ (by rw [hs, hl]) fun i v y hv hy => ?_
    have hi : i < us.length := by rw [← hl]; exact (List.getElem?_eq_some_iff.1 hv).1
    exact hx i v us[i] hv (by simp [hi]) F A' ids w M hh hA hX y (hr i us[i] y (by simp [hi]) hy)
theorem Wk.fn {h : Hp} {X : Nat → Prop} {ρ : Nat → Nat} {f : Fn} {xs us ys ws : List V} (hl : xs.length = us.length) (hl' : ys.length = ws.length) (hx : ∀ (i : Nat) (v u : V), xs[i]? = some v → us[i]? = some u → Wk h X ρ v u)
    (hy : ∀ (i : Nat) (v u : V), ys[i]? = some v → ws[i]? = some u → Wk h X ρ v u) : Wk h X ρ (.fn f xs ys) (.fn f us ws) := by
  intro F A' ids w M hh hA hX x hr
  cases hr with
  | fn _ _ _ ar br hs hs' hr hr' =>
    refine .fn _ _ _ _ _ (by rw [hs, hl]) (by rw [hs', hl']) (fun i v y hv hy' => ?_) fun i v y hv hy' => ?_
    · have hi : i < us.length := by rw [← hl]; exact (List.getElem?_eq_some_iff.1 hv).1
      exact hx i v us[i] hv (by simp [hi]) F A' ids w M hh hA hX y (hr i us[i] y (by simp [hi]) hy')
    · have hi : i < ws.length := by rw [← hl']; exact (List.getElem?_eq_some_iff.1 hv).1
      exact hy i v ws[i] hv (by simp [hi]) F A' ids w M hh hA hX y (hr' i ws[i] y (by simp [hi]) hy')
theorem Wk.ifc {h : Hp} {X : Nat → Prop} {ρ : Nat → Nat} {t : TypeId} {v u : V} (hv : Wk h X ρ v u) : Wk h X ρ (.ifc t v) (.ifc t u) := by
  intro F A' ids w M hh hA hX x hr
  cases hr with
  | ifc _ _ y hr => exact .ifc _ _ _ (hv F A' ids w M hh hA hX y hr)

/-- other, or fewer, names for the blocks of a heap; names for no block come and go -/
structure Ren (ρ : Nat → Nat) (h h' : Hp) (M' : Nm) : Prop where
  hp : ∀ n b, h' n = some b → (∃ b', h (ρ n) = some b' ∧ WkB h (fun n => ∃ m c, h' m = some c ∧ ρ m = n) ρ b b') ∨ b.real = false
  inj : ∀ n m b c, h' n = some b → h' m = some c → b.real = true → c.real = true → ρ n = ρ m → n = m
  lt : ∀ n b, h' n = some b → M' n ∧ b.Below M'
theorem Ren.real {ρ : Nat → Nat} {h h' : Hp} {M' : Nm} (r : Ren ρ h h' M') {n : Nat} {b : B} (hn : h' n = some b) (hr : b.real = true) : ∃ b', h (ρ n) = some b' ∧ b'.real = true ∧ WkB h (fun n => ∃ m c, h' m = some c ∧ ρ m = n) ρ b b' := by
  obtain ⟨b', h1, h2⟩ := (r.hp n b hn).resolve_right (by simp [hr])
  exact ⟨b', h1, by rw [h2.1]; exact hr, h2⟩
theorem Ren.avoid {ρ : Nat → Nat} {h h' : Hp} {M' : Nm} (r : Ren ρ h h' M') {F : Nat → Prop} {ids : Nat → Nat × Nat} (b : Nat) (x : Avoid F h' (fun n => ids (ρ n)) b) : Avoid F h ids b := by
  rcases x with x | ⟨n, c, hn, hr, hb⟩
  · exact .inl x
  · obtain ⟨b', h1, h2, _⟩ := r.real hn hr
    exact .inr ⟨ρ n, _, h1, h2, hb⟩
theorem Ren.gone {ρ : Nat → Nat} {h h' : Hp} {M M' : Nm} (r : Ren ρ h h' M') {F : Nat → Prop} {ids : Nat → Nat × Nat} {w : World} (hh : RepH F ids w h M) (n : Nat) (x : B) (hn : h n = some x) (hx : x.real = true) (hX : ¬ ∃ m c, h' m = some c ∧ ρ m = n) :
    ¬ Avoid F h' (fun n => ids (ρ n)) (ids n).1 := by
  rintro (hF | ⟨m, c, hm, hc, hb⟩)
  · exact hh.out n x hn hx hF
  · obtain ⟨b', h1, h2, _⟩ := r.real hm hc
    exact hX ⟨m, c, hm, hh.inj _ _ _ _ h1 hn h2 hx hb⟩
theorem Ren.heap {ρ : Nat → Nat} {h h' : Hp} {M M' : Nm} (r : Ren ρ h h' M') {F : Nat → Prop} {ids : Nat → Nat × Nat} {w : World} (hh : RepH F ids w h M) : RepH F (fun n => ids (ρ n)) w h' M' :=
  ⟨fun n b hn => (r.lt n b hn).1, fun n b hn => (by
      rcases r.hp n b hn with ⟨b', h1, h2⟩ | h1
      · exact h2.2 F _ ids w M hh (fun b x => r.avoid b x) (fun n x hn hx hX => r.gone hh n x hn hx hX) _ (hh.blk (ρ n) _ h1)
      · cases b with
        | dat sz rw => cases rw with
          | nil => exact ⟨fun h => absurd rfl h, by simp [leaves]⟩
          | cons _ _ => cases h1
        | _ => cases h1), fun n b hn => (r.lt n b hn).2,
   fun n m b c hn hm hb hc e => by
     obtain ⟨b1, g1, g2, _⟩ := r.real hn hb
     obtain ⟨b2, g3, g4, _⟩ := r.real hm hc
     exact r.inj n m b c hn hm hb hc (hh.inj _ _ _ _ g1 g3 g2 g4 e), fun n b hn hb => by
     obtain ⟨b1, g1, g2, _⟩ := r.real hn hb
     exact hh.out _ _ g1 g2, hh.fsz⟩

/-! ### a state that says no more than another one -/
def ren1 : List (Nat × Nat) → Nat → Nat
  | [], n => n
  | p :: l, n => match Nat.beq n p.1 with
    | true => p.2
    | false => ren1 l n
def ltAll (b : Nat) (l : List Nat) : Bool := l.all fun n => Nat.blt n b
def clK (cl cl' : Bool) (K : Prop) : Prop :=
  match cl with
  | false => K
  | true => match cl' with
    | true => K
    | false => False
/-- the value u, as the rows of a slice; fr: what may be given up -/
def subL (fr : Nat → Bool) (h : List (Nat × B)) (sz : Nat) (rows : List (List D)) (cl : Bool) (u : V) (K : Prop) : Prop :=
  match u with
  | .lst sz' rows' cl' => okK (Nat.beq sz' sz) (CB (rows' = rows) (clK cl cl' K))
  | .c (.slice none 0 0) => CB (rows = []) K
  | .ac n sz' len => okK (fr n) (okK (Nat.beq sz' sz) (clK cl false (match hAt h n with
    | some (.dat s r) => okK (Nat.beq s sz) (CB (len = r.length ∧ r = rows) K)
    | _ => False)))
  | .sl n sz' off len => okK (fr n) (okK (Nat.beq sz' sz) (clK cl false (match hAt h n with
    | some (.dat s r) => okK (Nat.beq s sz) (CB (off + len ≤ r.length ∧ rows = (r.drop off).take len) K)
    | _ => False)))
  | _ => False
/-- the value u of the state, as v with other names -/
def sub0 (ρ : Nat → Nat) (fr : Nat → Bool) (h : List (Nat × B)) (b : Nat) (v u : V) (K : Prop) : Prop :=
  match v with
  | .un => K
  | .ac n sz len => match u with
    | .c (.slice none 0 0) => okK (Nat.blt n b) (CB (len = 0) K)
    | .ac n' sz' len' => okK (Nat.blt n b) (okK (Nat.beq n' (ρ n)) (okK (Nat.beq sz' sz) (CB (len' = len) K)))
    | .sl n' sz' off' len' => okK (Nat.blt n b) (okK (Nat.beq n' (ρ n)) (okK (Nat.beq sz' sz) (CB (off' = 0 ∧ len' = len ∧ len ≠ 0) K)))
    | _ => False
  | .sl n sz off len => match u with
    | .sl n' sz' off' len' => okK (Nat.blt n b) (okK (Nat.beq n' (ρ n)) (okK (Nat.beq sz' sz) (CB (off' = off ∧ len' = len) K)))
    | _ => False
  | .c (.int k n) => match u with
    | .c (.int k' n') => sameK k k' (CB (n' = n) K)
    | _ => False
  | .c (.bool z) => match u with
    | .c (.bool z') => CB (z' = z) K
    | _ => False
  | .lst sz rows cl => subL fr h sz rows cl u K
  | v => okK (ltAll b (nameOf v)) (CB (u = renV ρ v) K)
abbrev SubT := List V → Prop → Prop
def subTNil : SubT := fun t K => match t with
  | [] => K
  | _ => False
def subTCons (g : V → V → Prop → Prop) (v : V) (T : List V) (ih : SubT) : SubT := fun t K => match t with
  | u :: t => g v u (ih t K)
  | [] => False
noncomputable def subs (g : V → V → Prop → Prop) (T : List V) : SubT := List.rec (motive := fun _ => SubT) subTNil (subTCons g) T
noncomputable def sub1 (ρ : Nat → Nat) (fr : Nat → Bool) (h : List (Nat × B)) (b : Nat) (v u : V) (K : Prop) : Prop :=
  match v with
  | .agg xs => match u with
    | .agg us => subs (sub0 ρ fr h b) xs us K
    | _ => False
  | v => sub0 ρ fr h b v u K
noncomputable def subV (ρ : Nat → Nat) (fr : Nat → Bool) (h : List (Nat × B)) (b : Nat) (v u : V) (K : Prop) : Prop :=
  match v with
  | .agg xs => match u with
    | .agg us => subs (sub0 ρ fr h b) xs us K
    | _ => False
  | .tup xs => match u with
    | .tup us => subs (sub1 ρ fr h b) xs us K
    | _ => False
  | .fn f xs ys => match u with
    | .fn f' us ws => CB (f' = f) (subs (sub0 ρ fr h b) xs us (subs (sub0 ρ fr h b) ys ws K))
    | _ => False
  | .ifc t x => match u with
    | .ifc t' y => okK (Nat.beq t' t) (sub0 ρ fr h b x y K)
    | _ => False
  | v => sub0 ρ fr h b v u K
noncomputable def subT (ρ : Nat → Nat) (fr : Nat → Bool) (h : List (Nat × B)) (b : Nat) (T : List V) : SubT := subs (subV ρ fr h b) T
abbrev SubR := List (List V) → Prop → Prop
def subRNil : SubR := fun t K => match t with
  | [] => K
  | _ => False
noncomputable def subRCons (g : List V → List V → Prop → Prop) (v : List V) (T : List (List V)) (ih : SubR) : SubR := fun t K => match t with
  | u :: t => g v u (ih t K)
  | [] => False
/-- rows, cell by cell -/
noncomputable def subR (ρ : Nat → Nat) (fr : Nat → Bool) (h : List (Nat × B)) (b : Nat) (T : List (List V)) : SubR := List.rec (motive := fun _ => SubR) subRNil (subRCons fun v u K => subs (subV ρ fr h b) v u K) T
def namesB : B → List Nat
  | .rows _ r => r.flatMap namesOf
  | .dat _ _ => []
  | .map es => es.flatMap fun e => nameOf e.2
/-- a map of plain values -/
def plainM (es : List (Value × V)) : Prop := ∀ e ∈ es, ∃ v, e.2 = .c v
theorem plainM_nil : plainM [] := fun e he => by cases he
theorem plainM.ren {es : List (Value × V)} (h : plainM es) (ρ : Nat → Nat) : renB ρ (.map es) = .map es := by
  simp only [renB]
  congr 1
  conv => rhs; rw [← List.map_id es]
  refine List.map_congr_left fun e he => ?_
  obtain ⟨v, hv⟩ := h e he
  obtain ⟨a, x⟩ := e
  simp only at hv
  subst hv
  rfl
theorem plainM.below {es : List (Value × V)} (h : plainM es) (m : Nm) : (B.map es).Below m := fun e he => by
  obtain ⟨v, hv⟩ := h e he
  rw [hv]; exact .c _
def subHNil : Prop → Prop := fun K => K
noncomputable def subHCons (ρ : Nat → Nat) (fr : Nat → Bool) (b : Nat) (h : List (Nat × B)) (p : Nat × B) (H : List (Nat × B)) (ih : Prop → Prop) : Prop → Prop := fun K =>
  okK (Nat.blt p.1 b) (match p.2 with
    | .dat sz r => match hAt h (ρ p.1) with
      | some (.dat sz' r') => okK (Nat.beq sz' sz) (CB (r' = r) (ih K))
      | _ => CB (r = []) (ih K)
    | .rows sz r => match hAt h (ρ p.1) with
      | some (.rows sz' r') => okK (Nat.beq sz' sz) (okK (ltAll b (namesB (.rows sz r))) (subR ρ fr h b r r' (ih K)))
      | _ => False
    | .map es => match hAt h (ρ p.1) with
      | some (.map es') => CB (es' = es) (CB (plainM es) (ih K))
      | _ => False)
noncomputable def subH (ρ : Nat → Nat) (fr : Nat → Bool) (b : Nat) (H h : List (Nat × B)) : Prop → Prop := List.rec (motive := fun _ => Prop → Prop) subHNil (subHCons ρ fr b h) H
def noTwice : List Nat → Bool
  | [] => true
  | x :: xs => !(xs.contains x) && noTwice xs
/-- what has no name any more -/
def frOf (ρ : Nat → Nat) (H : List (Nat × B)) (n : Nat) : Bool := !(H.any fun p => Nat.beq (ρ p.1) n)
noncomputable def subK (ρ : List (Nat × Nat)) (N b : Nat) (T : List V) (H : List (Nat × B)) (t : List V) (h : List (Nat × B)) : Prop :=
  okK (ρ.all fun p => Nat.ble N p.1) (okK (noTwice (H.map fun p => ren1 ρ p.1)) (subT (ren1 ρ) (frOf (ren1 ρ) H) h b T t (subH (ren1 ρ) (frOf (ren1 ρ) H) b H h True)))

theorem ren1_id {ρ : List (Nat × Nat)} {N n : Nat} (h : (ρ.all fun p => Nat.ble N p.1) = true) (hn : n < N) : ren1 ρ n = n := by
  induction ρ with
  | nil => rfl
  | cons p l ih =>
    simp only [List.all_cons, Bool.and_eq_true] at h
    have h1 := Nat.le_of_ble_eq_true h.1
    simp only [ren1]
    split
    · next e => have := Nat.eq_of_beq_eq_true e; omega
    · exact ih h.2
theorem ltAll_below {b : Nat} {v : V} (h : ltAll b (nameOf v) = true) : v.Below (Lt b) := all_below h
theorem clK_of {cl cl' : Bool} {K : Prop} (h : clK cl cl' K) : K ∧ (cl = true → cl' = true) := by
  cases cl with
  | false => exact ⟨h, by simp⟩
  | true => cases cl' with
    | true => exact ⟨h, fun _ => rfl⟩
    | false => cases h
/-- it says no more, in every heap that agrees on what may be given up -/
def Weak (fr : Nat → Bool) (h : List (Nat × B)) (ρ : Nat → Nat) (v u : V) : Prop := ∀ h2 : Hp, (∀ n, fr n = true → h2 n = hAt h n) → Wk h2 (fun n => fr n = false) ρ v u
theorem subL_of {ρ : Nat → Nat} {fr : Nat → Bool} {h : List (Nat × B)} {sz : Nat} {rows : List (List D)} {cl : Bool} {u : V} {K : Prop} (hk : subL fr h sz rows cl u K) : K ∧ Weak fr h ρ (.lst sz rows cl) u := by
  unfold subL at hk
  split at hk
  · obtain ⟨e1, hk⟩ := okK_of hk
    obtain ⟨e2, hk1⟩ := hk
    obtain ⟨hk2, e3⟩ := clK_of hk1
    cases Nat.eq_of_beq_eq_true e1
    cases e2
    refine ⟨hk2, fun h2 _ F A' ids w M hh hA hX x hx => ?_⟩
    cases hx with | lst _ _ _ _ hd hcl => exact .lst _ _ _ _ (hd.mono (Goes.refl _ w) fun b _ x => hA b x) (fun e => hcl (e3 e))
  · obtain ⟨e2, hk1⟩ := hk
    subst e2
    refine ⟨hk1, fun h2 _ F A' ids w M hh hA hX x hx => ?_⟩
    cases hx
    exact .lst _ _ _ _ (.emp _ _ _) (fun _ => ⟨none, rfl⟩)
  · next n sz' len =>
    obtain ⟨e0, q1⟩ := okK_of hk
    obtain ⟨e1, q2⟩ := okK_of q1
    obtain ⟨q3, e3⟩ := clK_of q2
    clear hk q1 q2
    cases Nat.eq_of_beq_eq_true e1
    split at q3
    case h_2 => cases q3
    next s r hr =>
    obtain ⟨e4, q4⟩ := okK_of q3
    obtain ⟨⟨e5, e6⟩, hk1⟩ := q4
    cases Nat.eq_of_beq_eq_true e4
    subst e6
    refine ⟨hk1, fun h2 hh2 F A' ids w M hh hA hX x hx => ?_⟩
    have hn : h2 n = some (.dat sz r) := by rw [hh2 n e0]; exact hr
    exact .lst _ _ _ _ (ac_rep hh hA hn (fun hne => hX n _ hn (dat_real hne) (by simp [e0])) e5 hx) (fun e => by cases e3 e)
  · next n sz' off len =>
    obtain ⟨e0, q1⟩ := okK_of hk
    obtain ⟨e1, q2⟩ := okK_of q1
    obtain ⟨q3, e3⟩ := clK_of q2
    clear hk q1 q2
    cases Nat.eq_of_beq_eq_true e1
    split at q3
    case h_2 => cases q3
    next s r hr =>
    obtain ⟨e4, q4⟩ := okK_of q3
    obtain ⟨⟨e5, e6⟩, hk1⟩ := q4
    cases Nat.eq_of_beq_eq_true e4
    subst e6
    refine ⟨hk1, fun h2 hh2 F A' ids w M hh hA hX x hx => ?_⟩
    have hn : h2 n = some (.dat sz r) := by rw [hh2 n e0]; exact hr
    exact .lst _ _ _ _ (sd_rep hh hA hn (fun hne => hX n _ hn (dat_real hne) (by simp [e0])) e5 hx) (fun e => by cases e3 e)
  · cases hk
theorem sub0_of {ρ : Nat → Nat} {fr : Nat → Bool} {h : List (Nat × B)} {b : Nat} {v u : V} {K : Prop} (hk : sub0 ρ fr h b v u K) : K ∧ v.Below (Lt b) ∧ Weak fr h ρ v u := by
  unfold sub0 at hk
  split at hk
  · exact ⟨hk, .un, fun _ _ => .un⟩
  · next n sz len =>
    split at hk
    · obtain ⟨e1, hk⟩ := okK_of hk
      obtain ⟨e2, hk'⟩ := hk
      subst e2
      refine ⟨hk', .ac _ _ _ (by simpa [Nat.blt_eq, Lt] using e1), fun h2 _ F A' ids w M hh hA hX x hx => ?_⟩
      cases hx; exact .ac0 _ _ _
    · obtain ⟨e1, hk⟩ := okK_of hk
      obtain ⟨e2, hk⟩ := okK_of hk
      obtain ⟨e3, hk⟩ := okK_of hk
      obtain ⟨e4, hk⟩ := hk
      refine ⟨hk, .ac _ _ _ (by simpa [Nat.blt_eq, Lt] using e1), fun h2 _ => ?_⟩
      rw [Nat.eq_of_beq_eq_true e2, Nat.eq_of_beq_eq_true e3, e4]
      exact Wk.ren ρ (.ac n sz len)
    · obtain ⟨e1, hk⟩ := okK_of hk
      obtain ⟨e2, hk⟩ := okK_of hk
      obtain ⟨e3, hk⟩ := okK_of hk
      obtain ⟨⟨e4, e5, e6⟩, hk⟩ := hk
      refine ⟨hk, .ac _ _ _ (by simpa [Nat.blt_eq, Lt] using e1), fun h2 _ => ?_⟩
      rw [Nat.eq_of_beq_eq_true e2, Nat.eq_of_beq_eq_true e3, e4, e5]
      exact fun F A' ids w M hh hA hX x hx => .ac1 _ _ _ _ e6 (Wk.ren (h := h2) (X := fun n => fr n = false) ρ (.sl n sz 0 len) F A' ids w M hh hA hX x hx)
    · cases hk
  · next n sz off len =>
    split at hk
    · obtain ⟨e1, hk⟩ := okK_of hk
      obtain ⟨e2, hk⟩ := okK_of hk
      obtain ⟨e3, hk⟩ := okK_of hk
      obtain ⟨e4, hk⟩ := hk
      refine ⟨hk, .sl _ _ _ _ (by simpa [Nat.blt_eq, Lt] using e1), fun h2 _ => ?_⟩
      rw [Nat.eq_of_beq_eq_true e2, Nat.eq_of_beq_eq_true e3, e4.1, e4.2]
      exact Wk.ren ρ (.sl n sz off len)
    · cases hk
  · next k n =>
    split at hk
    · obtain ⟨e1, hk⟩ := sameK_of hk
      obtain ⟨e2, hk⟩ := hk
      refine ⟨hk, .c _, fun h2 _ => ?_⟩
      rw [← e1, e2]
      exact Wk.ren ρ (.c (.int k n))
    · cases hk
  · next z =>
    split at hk
    · obtain ⟨e2, hk⟩ := hk
      refine ⟨hk, .c _, fun h2 _ => ?_⟩
      rw [e2]
      exact Wk.ren ρ (.c (.bool z))
    · cases hk
  · obtain ⟨h1, h2⟩ := subL_of (ρ := ρ) hk
    exact ⟨h1, .lst _ _ _, h2⟩
  · obtain ⟨e1, hk⟩ := okK_of hk
    obtain ⟨e2, hk⟩ := hk
    refine ⟨hk, ltAll_below e1, fun h2 _ => ?_⟩
    rw [e2]
    exact Wk.ren ρ _
theorem subs_of {fr : Nat → Bool} {h : List (Nat × B)} {ρ : Nat → Nat} {b : Nat} {g : V → V → Prop → Prop} (hg : ∀ {v u : V} {K : Prop}, g v u K → K ∧ v.Below (Lt b) ∧ Weak fr h ρ v u) : ∀ {T t : List V} {K : Prop}, subs g T t K →
    K ∧ T.length = t.length ∧ ∀ (i : Nat) (v u : V), T[i]? = some v → t[i]? = some u → v.Below (Lt b) ∧ Weak fr h ρ v u
  | [], [], K, hk => ⟨hk, rfl, by simp⟩
  | v :: T, u :: t, K, hk => by
    have hk : g v u (subs g T t K) := hk
    obtain ⟨hk, hb, hv⟩ := hg hk
    obtain ⟨h1, h2, h3⟩ := subs_of hg hk
    refine ⟨h1, by simp [h2], fun i x y hx hy => ?_⟩
    cases i with
    | zero => simp at hx hy; subst hx; subst hy; exact ⟨hb, hv⟩
    | succ i => exact h3 i x y (by simpa using hx) (by simpa using hy)
  | [], _ :: _, K, hk => by cases hk
  | _ :: _, [], K, hk => by cases hk
theorem subs_below {b : Nat} {xs us : List V} {Q : V → V → Prop} (hl : xs.length = us.length) (h : ∀ (i : Nat) (v u : V), xs[i]? = some v → us[i]? = some u → v.Below (Lt b) ∧ Q v u) : ∀ x ∈ xs, x.Below (Lt b) := by
  intro x hx
  obtain ⟨i, hi⟩ := List.getElem?_of_mem hx
  have hil : i < us.length := by rw [← hl]; exact (List.getElem?_eq_some_iff.1 hi).1
  exact (h i x us[i] hi (by simp [hil])).1
theorem sub1_of {ρ : Nat → Nat} {fr : Nat → Bool} {h : List (Nat × B)} {b : Nat} {v u : V} {K : Prop} (hk : sub1 ρ fr h b v u K) : K ∧ v.Below (Lt b) ∧ Weak fr h ρ v u := by
  unfold sub1 at hk
  split at hk
  · split at hk
    · obtain ⟨h1, h2, h3⟩ := subs_of sub0_of hk
      exact ⟨h1, .agg _ (subs_below h2 h3), fun hp hh => Wk.agg h2 fun i v u hv hu => (h3 i v u hv hu).2 hp hh⟩
    · cases hk
  · exact sub0_of hk
theorem subV_of {ρ : Nat → Nat} {fr : Nat → Bool} {h : List (Nat × B)} {b : Nat} {v u : V} {K : Prop} (hk : subV ρ fr h b v u K) : K ∧ v.Below (Lt b) ∧ Weak fr h ρ v u := by
  unfold subV at hk
  split at hk
  · split at hk
    · obtain ⟨h1, h2, h3⟩ := subs_of sub0_of hk
      exact ⟨h1, .agg _ (subs_below h2 h3), fun hp hh => Wk.agg h2 fun i v u hv hu => (h3 i v u hv hu).2 hp hh⟩
    · cases hk
  · split at hk
    · obtain ⟨h1, h2, h3⟩ := subs_of sub1_of hk
      exact ⟨h1, .tup _ (subs_below h2 h3), fun hp hh => Wk.tup h2 fun i v u hv hu => (h3 i v u hv hu).2 hp hh⟩
    · cases hk
  · split at hk
    · obtain ⟨e, hk⟩ := hk
      subst e
      obtain ⟨hk, h2, h3⟩ := subs_of sub0_of hk
      obtain ⟨h1, h4, h5⟩ := subs_of sub0_of hk
      exact ⟨h1, .fn _ _ _ (subs_below h2 h3) (subs_below h4 h5), fun hp hh => Wk.fn h2 h4 (fun i v u hv hu => (h3 i v u hv hu).2 hp hh) fun i v u hv hu => (h5 i v u hv hu).2 hp hh⟩
    · cases hk
  · split at hk
    · obtain ⟨e, hk1⟩ := okK_of hk
      cases Nat.eq_of_beq_eq_true e
      obtain ⟨h1, h2, h3⟩ := sub0_of hk1
      exact ⟨h1, .ifc _ _ h2, fun hp hh => Wk.ifc (h3 hp hh)⟩
    · cases hk
  · exact sub0_of hk
theorem tAt_get : ∀ (l : List V) (i : Nat), tAt l i = (l[i]?).getD .un
  | [], i => rfl
  | x :: l, 0 => rfl
  | x :: l, i + 1 => by rw [tAt, tAt_get l i]; simp
theorem subT_of {ρ : Nat → Nat} {fr : Nat → Bool} {h : List (Nat × B)} {b : Nat} {T t : List V} {K : Prop} (hk : subT ρ fr h b T t K) : K ∧ T.length = t.length ∧ ∀ i, (tAt T i).Below (Lt b) ∧ Weak fr h ρ (tAt T i) (tAt t i) := by
  obtain ⟨h1, h2, h3⟩ := subs_of subV_of hk
  refine ⟨h1, h2, fun i => ?_⟩
  rw [tAt_get, tAt_get]
  by_cases hi : i < T.length
  · have hi' : i < t.length := by omega
    have := h3 i T[i] t[i] (by simp [hi]) (by simp [hi'])
    simpa [hi, hi'] using this
  · have hi' : ¬ i < t.length := by omega
    simp only [List.getElem?_eq_none (Nat.le_of_not_lt hi), List.getElem?_eq_none (Nat.le_of_not_lt hi'), Option.getD_none]
    exact ⟨.un, fun _ _ => .un⟩
theorem subR_of {ρ : Nat → Nat} {fr : Nat → Bool} {h : List (Nat × B)} {b : Nat} : ∀ {T t : List (List V)} {K : Prop}, subR ρ fr h b T t K → K ∧ T.length = t.length ∧
    ∀ (i : Nat) (r r' : List V), T[i]? = some r → t[i]? = some r' → r.length = r'.length ∧ ∀ (j : Nat) (v u : V), r[j]? = some v → r'[j]? = some u → v.Below (Lt b) ∧ Weak fr h ρ v u
  | [], [], K, hk => ⟨hk, rfl, by simp⟩
  | v :: T, u :: t, K, hk => by
    have hk : subs (subV ρ fr h b) v u (subR ρ fr h b T t K) := hk
    obtain ⟨hk, hb, hv⟩ := subs_of subV_of hk
    obtain ⟨h1, h2, h3⟩ := subR_of hk
    refine ⟨h1, by simp [h2], fun i x y hx hy => ?_⟩
    cases i with
    | zero => simp at hx hy; subst hx; subst hy; exact ⟨hb, hv⟩
    | succ i => exact h3 i x y (by simpa using hx) (by simpa using hy)
  | [], _ :: _, K, hk => by cases hk
  | _ :: _, [], K, hk => by cases hk
theorem ltAll_belowB {b : Nat} {x : B} (h : ltAll b (namesB x) = true) : x.Below (Lt b) := by
  unfold ltAll at h
  rw [List.all_eq_true] at h
  cases x with
  | dat sz r => trivial
  | rows sz r =>
    intro row hr y hy
    refine all_below ?_
    rw [List.all_eq_true]
    exact fun n hn => h n (List.mem_flatMap.2 ⟨row, hr, mem_namesOf.2 ⟨y, hy, hn⟩⟩)
  | map es =>
    intro e he
    refine all_below ?_
    rw [List.all_eq_true]
    exact fun n hn => h n (List.mem_flatMap.2 ⟨e, he, hn⟩)
/-- a block that says no more, alike -/
def WeakB (fr : Nat → Bool) (h : List (Nat × B)) (ρ : Nat → Nat) (b b' : B) : Prop := ∀ h2 : Hp, (∀ n, fr n = true → h2 n = hAt h n) → WkB h2 (fun n => fr n = false) ρ b b'
theorem WkB.ren {h : Hp} {X : Nat → Prop} (ρ : Nat → Nat) (b : B) : WkB h X ρ b (renB ρ b) := ⟨renB_real ρ b, fun F A' ids w M _ hA _ p hp => ren_repB hA hp⟩
theorem WkB.rows {h : Hp} {X : Nat → Prop} {ρ : Nat → Nat} {sz : Nat} {r r' : List (List V)} (hl : r.length = r'.length) (hr : ∀ (i : Nat) (a a' : List V), r[i]? = some a → r'[i]? = some a' → a.length = a'.length ∧ ∀ (j : Nat) (v u : V), a[j]? = some v → a'[j]? = some u → Wk h X ρ v u) :
    WkB h X ρ (.rows sz r) (.rows sz r') := by
  refine ⟨rfl, fun F A' ids w M hh hA hX p hp => ?_⟩
  obtain ⟨arr, T, h1, h2, h3, h4⟩ := hp
  refine ⟨arr, T, h1, by rw [hl]; exact h2, fun row hrow => ?_, fun i row j x hi hj => ?_⟩
  · obtain ⟨i, hi⟩ := List.getElem?_of_mem hrow
    have hil : i < r'.length := by rw [← hl]; exact (List.getElem?_eq_some_iff.1 hi).1
    rw [(hr i row r'[i] hi (by simp [hil])).1]
    exact h3 _ (List.getElem_mem hil)
  · have hil : i < r'.length := by rw [← hl]; exact (List.getElem?_eq_some_iff.1 hi).1
    obtain ⟨e1, e2⟩ := hr i row r'[i] hi (by simp [hil])
    have hjl : j < r'[i].length := by rw [← e1]; exact (List.getElem?_eq_some_iff.1 hj).1
    obtain ⟨v, hv, hrep⟩ := h4 i r'[i] j r'[i][j] (by simp [hil]) (by simp [hjl])
    exact ⟨v, hv, e2 j x r'[i][j] hj (by simp [hjl]) F A' ids w M hh hA hX v hrep⟩
theorem subH_of {ρ : Nat → Nat} {fr : Nat → Bool} {b : Nat} : ∀ {H h : List (Nat × B)} {K : Prop}, subH ρ fr b H h K → K ∧ ∀ p ∈ H, p.1 < b ∧ p.2.Below (Lt b) ∧ ((∃ b', hAt h (ρ p.1) = some b' ∧ WeakB fr h ρ p.2 b') ∨ p.2.real = false)
  | [], h, K, hk => ⟨hk, by simp⟩
  | p :: H, h, K, hk => by
    have hk : okK (Nat.blt p.1 b) (match p.2 with
      | .dat sz r => match hAt h (ρ p.1) with
        | some (.dat sz' r') => okK (Nat.beq sz' sz) (CB (r' = r) (subH ρ fr b H h K))
        | _ => CB (r = []) (subH ρ fr b H h K)
      | .rows sz r => match hAt h (ρ p.1) with
        | some (.rows sz' r') => okK (Nat.beq sz' sz) (okK (ltAll b (namesB (.rows sz r))) (subR ρ fr h b r r' (subH ρ fr b H h K)))
        | _ => False
      | .map es => match hAt h (ρ p.1) with
        | some (.map es') => CB (es' = es) (CB (plainM es) (subH ρ fr b H h K))
        | _ => False) := hk
    obtain ⟨e1, hk⟩ := okK_of hk
    have e1 : p.1 < b := by simpa [Nat.blt_eq] using e1
    obtain ⟨n, B⟩ := p
    dsimp only at hk e1
    have fin : ∀ {K : Prop}, subH ρ fr b H h K → (B.Below (Lt b) ∧ ((∃ b', hAt h (ρ n) = some b' ∧ WeakB fr h ρ B b') ∨ B.real = false)) → K ∧ ∀ p ∈ (n, B) :: H, p.1 < b ∧ p.2.Below (Lt b) ∧ ((∃ b', hAt h (ρ p.1) = some b' ∧ WeakB fr h ρ p.2 b') ∨ p.2.real = false) := by
      intro K hk hB
      obtain ⟨h1, h2⟩ := subH_of hk
      refine ⟨h1, fun p hp => ?_⟩
      rcases List.mem_cons.1 hp with rfl | hp
      · exact ⟨e1, hB⟩
      · exact h2 p hp
    cases B with
    | dat sz r =>
      dsimp only at hk
      split at hk
      · next sz' r' hr =>
        obtain ⟨e2, hk⟩ := okK_of hk
        obtain ⟨e3, hk⟩ := hk
        exact fin hk ⟨trivial, .inl ⟨_, hr, fun _ _ => by rw [Nat.eq_of_beq_eq_true e2, e3]; exact WkB.ren ρ (.dat sz r)⟩⟩
      · obtain ⟨e3, q1⟩ := hk
        subst e3
        exact fin q1 ⟨trivial, .inr rfl⟩
    | rows sz r =>
      dsimp only at hk
      split at hk
      · next sz' r' hr =>
        obtain ⟨e2, q1⟩ := okK_of hk
        obtain ⟨e3, q2⟩ := okK_of q1
        obtain ⟨q3, h2, h3⟩ := subR_of q2
        cases Nat.eq_of_beq_eq_true e2
        exact fin q3 ⟨ltAll_belowB e3, .inl ⟨_, hr, fun hp hh => WkB.rows h2 fun i a a' ha ha' => ⟨(h3 i a a' ha ha').1, fun j v u hv hu => ((h3 i a a' ha ha').2 j v u hv hu).2 hp hh⟩⟩⟩
      · cases hk
    | map es =>
      dsimp only at hk
      split at hk
      · next es' hr =>
        obtain ⟨e2, q1⟩ := hk
        obtain ⟨e3, q2⟩ := q1
        subst e2
        exact fin q2 ⟨e3.below _, .inl ⟨_, hr, fun _ _ => by have := WkB.ren (h := ‹Hp›) (X := fun n => fr n = false) ρ (.map es'); rw [e3.ren] at this; exact this⟩⟩
      · cases hk
theorem noTwice_nodup : ∀ {l : List Nat}, noTwice l = true → l.Nodup
  | [], _ => List.nodup_nil
  | x :: xs, h => by
    simp only [noTwice, Bool.and_eq_true, Bool.not_eq_true', List.contains_eq_mem, decide_eq_false_iff_not] at h
    exact List.nodup_cons.2 ⟨h.1, noTwice_nodup h.2⟩
theorem nodup_inj {α : Type} {f : α → Nat} : ∀ {l : List α}, (l.map f).Nodup → ∀ a ∈ l, ∀ b ∈ l, f a = f b → a = b
  | [], _, a, ha, _, _, _ => by simp at ha
  | x :: xs, h, a, ha, b, hb, e => by
    rw [List.map_cons, List.nodup_cons] at h
    rcases List.mem_cons.1 ha with ea | ha'
    · rcases List.mem_cons.1 hb with eb | hb'
      · rw [ea, eb]
      · exact (h.1 (by rw [← ea, e]; exact List.mem_map_of_mem hb')).elim
    · rcases List.mem_cons.1 hb with eb | hb'
      · exact (h.1 (by rw [← eb, ← e]; exact List.mem_map_of_mem ha')).elim
      · exact nodup_inj h.2 a ha' b hb' e
theorem hAt_mem : ∀ {l : List (Nat × B)} {n : Nat} {b : B}, hAt l n = some b → (n, b) ∈ l
  | [], n, b, h => by cases h
  | p :: l, n, b, h => by
    simp only [hAt] at h
    split at h
    · next e =>
      have e := Nat.eq_of_beq_eq_true e
      obtain ⟨p1, p2⟩ := p
      dsimp only at e h
      subst e; cases h
      simp
    · exact List.mem_cons_of_mem _ (hAt_mem h)

theorem hAt_some : ∀ {l : List (Nat × B)} {p : Nat × B}, p ∈ l → ∃ c, hAt l p.1 = some c
  | [], p, h => by cases h
  | q :: l, p, h => by
    simp only [hAt]
    split
    · exact ⟨_, rfl⟩
    · next e =>
      rcases List.mem_cons.1 h with rfl | h
      · rw [Nat.beq_refl] at e; cases e
      · exact hAt_some h
theorem frOf_iff {ρ : Nat → Nat} {H : List (Nat × B)} {n : Nat} : frOf ρ H n = false ↔ ∃ m c, hAt H m = some c ∧ ρ m = n := by
  unfold frOf
  rw [Bool.not_eq_false', List.any_eq_true]
  constructor
  · rintro ⟨p, hp, e⟩
    obtain ⟨c, hc⟩ := hAt_some hp
    exact ⟨p.1, c, hc, Nat.eq_of_beq_eq_true e⟩
  · rintro ⟨m, c, hm, rfl⟩
    exact ⟨(m, c), hAt_mem hm, Nat.beq_refl _⟩
theorem subH_ren {ρ : Nat → Nat} {b : Nat} {H h : List (Nat × B)} (hn : (H.map fun p => ρ p.1).Nodup) (hH : ∀ p ∈ H, p.1 < b ∧ p.2.Below (Lt b) ∧ ((∃ b', hAt h (ρ p.1) = some b' ∧ WeakB (frOf ρ H) h ρ p.2 b') ∨ p.2.real = false)) : Ren ρ (hAt h) (hAt H) (Lt b) := by
  have hX : (fun n => frOf ρ H n = false) = fun n => ∃ m c, hAt H m = some c ∧ ρ m = n := by funext n; exact propext frOf_iff
  refine ⟨fun n c hn => ?_, fun n m c d hn' hm _ _ e => ?_, fun n c hn => ⟨(hH _ (hAt_mem hn)).1, (hH _ (hAt_mem hn)).2.1⟩⟩
  · rcases (hH _ (hAt_mem hn)).2.2 with ⟨b', h1, h2⟩ | h1
    · exact .inl ⟨b', h1, by rw [← hX]; exact h2 _ fun _ _ => rfl⟩
    · exact .inr h1
  · exact congrArg Prod.fst (nodup_inj (f := fun p : Nat × B => ρ p.1) hn _ (hAt_mem hn') _ (hAt_mem hm) e)
theorem Weak.rep {ρ : Nat → Nat} {b : Nat} {H h : List (Nat × B)} (hren : Ren ρ (hAt h) (hAt H) (Lt b)) {v u : V} (hw : Weak (frOf ρ H) h ρ v u) {F : Nat → Prop} {ids : Nat → Nat × Nat} {w : World} {M : Nm} (hh : RepH F ids w (hAt h) M) {x : Value} (hx : RepV (Avoid F (hAt h) ids) ids w u x) :
    RepV (Avoid F (hAt H) fun n => ids (ρ n)) (fun n => ids (ρ n)) w v x :=
  hw (hAt h) (fun _ _ => rfl) F _ ids w M hh (fun b x => hren.avoid b x) (fun n y hn hy hX => hren.gone hh n y hn hy (fun hex => hX (frOf_iff.2 hex))) x hx
theorem subK_of {ρ : List (Nat × Nat)} {N b b' : Nat} {T t : List V} {H h : List (Nat × B)} (hk : subK ρ N b T H t h) : Sub (Lt N) ⟨tAt t, hAt h, b', t.length⟩ ⟨tAt T, hAt H, b, T.length⟩ ∧ T.length = t.length := by
  obtain ⟨e1, hk⟩ := okK_of hk
  obtain ⟨e2, hk⟩ := okK_of hk
  obtain ⟨hk, hlen, hT⟩ := subT_of hk
  obtain ⟨_, hH⟩ := subH_of hk
  refine ⟨?_, hlen⟩
  have hren : Ren (ren1 ρ) (hAt h) (hAt H) (Lt b) := subH_ren (noTwice_nodup e2) hH
  intro F ids w a hr
  refine ⟨fun n => ids (ren1 ρ n), ⟨hren.heap hr.heap, fun i => ?_, by rw [hlen]; exact hr.size, fun i hi => ?_, fun i => (hT i).1, hr.defers⟩, ⟨Goes.refl _ _, fun b _ x => ?_, fun n hn => by rw [ren1_id e1 hn]⟩⟩
  · exact (hT i).2.rep hren hr.heap (hr.tmps i)
  · show tAt T i = .un
    rw [tAt_get, List.getElem?_eq_none hi]; rfl
  · obtain ⟨n, c, hn, hcr, hb⟩ := x
    obtain ⟨b', h1, h2, _⟩ := hren.real hn hcr
    exact ⟨ren1 ρ n, _, h1, h2, hb⟩

/-! ### loops -/
/-- only the slots of l -/
def keepT : Nat → List Nat → List V → List V
  | _, _, [] => []
  | i, l, x :: t => (match l.contains i with | true => x | false => .un) :: keepT (i + 1) l t
def putsT : List (Nat × V) → List V → List V
  | [], t => t
  | p :: l, t => putsT l (t.set p.1 p.2)
def keepH (l : List Nat) : List (Nat × B) → List (Nat × B)
  | [] => []
  | p :: h => match l.contains p.1 with
    | true => p :: keepH l h
    | false => keepH l h
theorem keepT_len : ∀ (i : Nat) (l : List Nat) (t : List V), (keepT i l t).length = t.length
  | _, _, [] => rfl
  | i, l, x :: t => by simp [keepT, keepT_len]
theorem putsT_len : ∀ (l : List (Nat × V)) (t : List V), (putsT l t).length = t.length
  | [], _ => rfl
  | p :: l, t => by simp [putsT, putsT_len]
/-- the round is done: the next one begins in the state of y -/
inductive NextB {α : Type} (I : α → Prop) (μ : α → Nat) (x : α) (N b : Nat) (T : α → List V) (H : α → List (Nat × B)) (t : List V) (h : List (Nat × B)) : Prop
  | mk (ρ : List (Nat × Nat)) (y : α) (hI : I y) (hμ : μ y < μ x) (hs : subK ρ N b (T y) (H y) t h) : NextB I μ x N b T H t h
section
variable {P : Program} {tab : Tab}
/-- a round, begun in the state T, H -/
noncomputable def roundK {α : Type} (P : Program) (tab : Tab) (N : Nat) (c : Code) (b : Nat) (K : Ex → List V → List (Nat × B) → Nat → Prop) (I : α → Prop) (μ : α → Nat) (T : α → List V) (H : α → List (Nat × B)) (x : α) : Prop :=
  headsK (T x) fun t => listK (H x) fun h => codeK P tab N c t h b fun e t' h' b' => match e with
    | .normal => NextB I μ x N b T H t' h'
    | .exit i => K (.exit i) t' h' b'
    | .ret => K .ret t' h' b'
theorem loopB_gen (ht : TabOk P tab) (hmix : P.follows .mixedOrders = true) {α : Type} {N : Nat} {c : Code} {t : List V} {h : List (Nat × B)} {b : Nat} {K : Ex → List V → List (Nat × B) → Nat → Prop}
    (T : α → List V) (H : α → List (Nat × B)) (I : α → Prop) (μ : α → Nat) (ρ : List (Nat × Nat)) (x : α) (hb : N ≤ b) (hl : ∀ x, (T x).length = t.length) (h0 : I x) (hs : subK ρ N b (T x) (H x) t h)
    (round : ∀ x, I x → roundK P tab N c b K I μ T H x) : LoopB P tab N c t h b K := by
  refine ⟨hb, ?_⟩
  obtain ⟨hs, hs2⟩ := subK_of (b' := b) hs
  refine AWP.sub hs ?_
  refine awp_loop (fun x => ⟨tAt (T x), hAt (H x), b, (T x).length⟩) I μ (fun x hx => ?_) h0
  have hr := listK_of (headsK_of (round x hx))
  refine AWP.mono (codeK_of ht hmix c _ _ b _ hb hr) ?_
  rintro e s ⟨t', h', b', rfl, e1, hb', hk⟩
  cases e with
  | normal =>
    obtain ⟨ρ, y, hI, hμ, hs⟩ := hk
    exact ⟨y, hI, hμ, (subK_of hs).1⟩
  | exit i => exact ⟨t', h', b', rfl, by rw [e1, hl], hb', hk⟩
  | ret => exact ⟨t', h', b', rfl, by rw [e1, hl], hb', hk⟩
/-- a loop: the slots ks and the blocks kh are kept, those of ch and hc change -/
theorem loopB (ht : TabOk P tab) (hmix : P.follows .mixedOrders = true) {α : Type} {N : Nat} {c : Code} {t : List V} {h : List (Nat × B)} {b : Nat} {K : Ex → List V → List (Nat × B) → Nat → Prop}
    (ks : List Nat) (kh : List Nat) (ch : α → List (Nat × V)) (hc : α → List (Nat × B)) (I : α → Prop) (μ : α → Nat) (ρ : List (Nat × Nat)) (x : α) (hb : Nat.ble N b = true) (h0 : I x)
    (hs : subK ρ N b (putsT (ch x) (keepT 0 ks t)) (hc x ++ keepH kh h) t h)
    (round : ∀ x, I x → roundK P tab N c b K I μ (fun x => putsT (ch x) (keepT 0 ks t)) (fun x => hc x ++ keepH kh h) x) : LoopB P tab N c t h b K :=
  loopB_gen ht hmix _ _ I μ ρ x (Nat.le_of_ble_eq_true hb) (fun x => by rw [putsT_len, keepT_len]) h0 hs round
/-- the same with 2 running things -/
inductive NextB2 {α β : Type} (I : α → β → Prop) (μ : α → β → Nat) (m0 : Nat) (N b : Nat) (T : α → β → List V) (H : α → β → List (Nat × B)) (t : List V) (h : List (Nat × B)) : Prop
  | mk (ρ : List (Nat × Nat)) (x : α) (y : β) (hI : I x y) (hμ : μ x y < m0) (hs : subK ρ N b (T x y) (H x y) t h) : NextB2 I μ m0 N b T H t h
noncomputable def roundK2 {α β : Type} (P : Program) (tab : Tab) (N : Nat) (c : Code) (b : Nat) (K : Ex → List V → List (Nat × B) → Nat → Prop) (I : α → β → Prop) (μ : α → β → Nat) (T : α → β → List V) (H : α → β → List (Nat × B)) (x : α) (y : β) : Prop :=
  headsK (T x y) fun t => listK (H x y) fun h => codeK P tab N c t h b fun e t' h' b' => match e with
    | .normal => NextB2 I μ (μ x y) N b T H t' h'
    | .exit i => K (.exit i) t' h' b'
    | .ret => K .ret t' h' b'
theorem loopB2 (ht : TabOk P tab) (hmix : P.follows .mixedOrders = true) {α β : Type} {N : Nat} {c : Code} {t : List V} {h : List (Nat × B)} {b : Nat} {K : Ex → List V → List (Nat × B) → Nat → Prop}
    (ks : List Nat) (kh : List Nat) (ch : α → β → List (Nat × V)) (hc : α → β → List (Nat × B)) (I : α → β → Prop) (μ : α → β → Nat) (ρ : List (Nat × Nat)) (x : α) (y : β) (hb : Nat.ble N b = true) (h0 : I x y)
    (hs : subK ρ N b (putsT (ch x y) (keepT 0 ks t)) (hc x y ++ keepH kh h) t h)
    (round : ∀ (x : α) (y : β), I x y → roundK2 P tab N c b K I μ (fun x y => putsT (ch x y) (keepT 0 ks t)) (fun x y => hc x y ++ keepH kh h) x y) : LoopB P tab N c t h b K := by
  have hb := Nat.le_of_ble_eq_true hb
  refine ⟨hb, ?_⟩
  obtain ⟨hs, hs2⟩ := subK_of (b' := b) hs
  refine AWP.sub hs ?_
  refine awp_loop (α := α × β) (fun p => ⟨tAt (putsT (ch p.1 p.2) (keepT 0 ks t)), hAt (hc p.1 p.2 ++ keepH kh h), b, (putsT (ch p.1 p.2) (keepT 0 ks t)).length⟩) (fun p => I p.1 p.2) (fun p => μ p.1 p.2) (fun p hx => ?_) (x := (x, y)) h0
  have hr := listK_of (headsK_of (round p.1 p.2 hx))
  refine AWP.mono (codeK_of ht hmix c _ _ b _ hb hr) ?_
  rintro e s ⟨t', h', b', rfl, e1, hb', hk⟩
  cases e with
  | normal =>
    obtain ⟨ρ, x', y', hI, hμ, hs⟩ := hk
    exact ⟨(x', y'), hI, hμ, (subK_of hs).1⟩
  | exit i => exact ⟨t', h', b', rfl, by rw [e1, putsT_len, keepT_len], hb', hk⟩
  | ret => exact ⟨t', h', b', rfl, by rw [e1, putsT_len, keepT_len], hb', hk⟩
/-- the same with 3 running things -/
inductive NextB3 {α β γ : Type} (I : α → β → γ → Prop) (μ : α → β → γ → Nat) (m0 : Nat) (N b : Nat) (T : α → β → γ → List V) (H : α → β → γ → List (Nat × B)) (t : List V) (h : List (Nat × B)) : Prop
  | mk (ρ : List (Nat × Nat)) (x : α) (y : β) (z : γ) (hI : I x y z) (hμ : μ x y z < m0) (hs : subK ρ N b (T x y z) (H x y z) t h) : NextB3 I μ m0 N b T H t h
noncomputable def roundK3 {α β γ : Type} (P : Program) (tab : Tab) (N : Nat) (c : Code) (b : Nat) (K : Ex → List V → List (Nat × B) → Nat → Prop) (I : α → β → γ → Prop) (μ : α → β → γ → Nat) (T : α → β → γ → List V) (H : α → β → γ → List (Nat × B)) (x : α) (y : β) (z : γ) : Prop :=
  headsK (T x y z) fun t => listK (H x y z) fun h => codeK P tab N c t h b fun e t' h' b' => match e with
    | .normal => NextB3 I μ (μ x y z) N b T H t' h'
    | .exit i => K (.exit i) t' h' b'
    | .ret => K .ret t' h' b'
theorem loopB3 (ht : TabOk P tab) (hmix : P.follows .mixedOrders = true) {α β γ : Type} {N : Nat} {c : Code} {t : List V} {h : List (Nat × B)} {b : Nat} {K : Ex → List V → List (Nat × B) → Nat → Prop}
    (ks : List Nat) (kh : List Nat) (ch : α → β → γ → List (Nat × V)) (hc : α → β → γ → List (Nat × B)) (I : α → β → γ → Prop) (μ : α → β → γ → Nat) (ρ : List (Nat × Nat)) (x : α) (y : β) (z : γ) (hb : Nat.ble N b = true) (h0 : I x y z)
    (hs : subK ρ N b (putsT (ch x y z) (keepT 0 ks t)) (hc x y z ++ keepH kh h) t h)
    (round : ∀ (x : α) (y : β) (z : γ), I x y z → roundK3 P tab N c b K I μ (fun x y z => putsT (ch x y z) (keepT 0 ks t)) (fun x y z => hc x y z ++ keepH kh h) x y z) : LoopB P tab N c t h b K := by
  have hb := Nat.le_of_ble_eq_true hb
  refine ⟨hb, ?_⟩
  obtain ⟨hs, hs2⟩ := subK_of (b' := b) hs
  refine AWP.sub hs ?_
  refine awp_loop (α := α × β × γ) (fun p => ⟨tAt (putsT (ch p.1 p.2.1 p.2.2) (keepT 0 ks t)), hAt (hc p.1 p.2.1 p.2.2 ++ keepH kh h), b, (putsT (ch p.1 p.2.1 p.2.2) (keepT 0 ks t)).length⟩) (fun p => I p.1 p.2.1 p.2.2) (fun p => μ p.1 p.2.1 p.2.2) (fun p hx => ?_) (x := (x, y, z)) h0
  have hr := listK_of (headsK_of (round p.1 p.2.1 p.2.2 hx))
  refine AWP.mono (codeK_of ht hmix c _ _ b _ hb hr) ?_
  rintro e s ⟨t', h', b', rfl, e1, hb', hk⟩
  cases e with
  | normal =>
    obtain ⟨ρ, x', y', z', hI, hμ, hs⟩ := hk
    exact ⟨(x', y', z'), hI, hμ, (subK_of hs).1⟩
  | exit i => exact ⟨t', h', b', rfl, by rw [e1, putsT_len, keepT_len], hb', hk⟩
  | ret => exact ⟨t', h', b', rfl, by rw [e1, putsT_len, keepT_len], hb', hk⟩
/-- the same with 4 running things -/
inductive NextB4 {α β γ δ : Type} (I : α → β → γ → δ → Prop) (μ : α → β → γ → δ → Nat) (m0 : Nat) (N b : Nat) (T : α → β → γ → δ → List V) (H : α → β → γ → δ → List (Nat × B)) (t : List V) (h : List (Nat × B)) : Prop
  | mk (ρ : List (Nat × Nat)) (x : α) (y : β) (z : γ) (u : δ) (hI : I x y z u) (hμ : μ x y z u < m0) (hs : subK ρ N b (T x y z u) (H x y z u) t h) : NextB4 I μ m0 N b T H t h
noncomputable def roundK4 {α β γ δ : Type} (P : Program) (tab : Tab) (N : Nat) (c : Code) (b : Nat) (K : Ex → List V → List (Nat × B) → Nat → Prop) (I : α → β → γ → δ → Prop) (μ : α → β → γ → δ → Nat) (T : α → β → γ → δ → List V) (H : α → β → γ → δ → List (Nat × B)) (x : α) (y : β) (z : γ) (u : δ) : Prop :=
  headsK (T x y z u) fun t => listK (H x y z u) fun h => codeK P tab N c t h b fun e t' h' b' => match e with
    | .normal => NextB4 I μ (μ x y z u) N b T H t' h'
    | .exit i => K (.exit i) t' h' b'
    | .ret => K .ret t' h' b'
theorem loopB4 (ht : TabOk P tab) (hmix : P.follows .mixedOrders = true) {α β γ δ : Type} {N : Nat} {c : Code} {t : List V} {h : List (Nat × B)} {b : Nat} {K : Ex → List V → List (Nat × B) → Nat → Prop}
    (ks : List Nat) (kh : List Nat) (ch : α → β → γ → δ → List (Nat × V)) (hc : α → β → γ → δ → List (Nat × B)) (I : α → β → γ → δ → Prop) (μ : α → β → γ → δ → Nat) (ρ : List (Nat × Nat)) (x : α) (y : β) (z : γ) (u : δ) (hb : Nat.ble N b = true) (h0 : I x y z u)
    (hs : subK ρ N b (putsT (ch x y z u) (keepT 0 ks t)) (hc x y z u ++ keepH kh h) t h)
    (round : ∀ (x : α) (y : β) (z : γ) (u : δ), I x y z u → roundK4 P tab N c b K I μ (fun x y z u => putsT (ch x y z u) (keepT 0 ks t)) (fun x y z u => hc x y z u ++ keepH kh h) x y z u) : LoopB P tab N c t h b K := by
  have hb := Nat.le_of_ble_eq_true hb
  refine ⟨hb, ?_⟩
  obtain ⟨hs, hs2⟩ := subK_of (b' := b) hs
  refine AWP.sub hs ?_
  refine awp_loop (α := α × β × γ × δ) (fun p => ⟨tAt (putsT (ch p.1 p.2.1 p.2.2.1 p.2.2.2) (keepT 0 ks t)), hAt (hc p.1 p.2.1 p.2.2.1 p.2.2.2 ++ keepH kh h), b, (putsT (ch p.1 p.2.1 p.2.2.1 p.2.2.2) (keepT 0 ks t)).length⟩) (fun p => I p.1 p.2.1 p.2.2.1 p.2.2.2) (fun p => μ p.1 p.2.1 p.2.2.1 p.2.2.2) (fun p hx => ?_) (x := (x, y, z, u)) h0
  have hr := listK_of (headsK_of (round p.1 p.2.1 p.2.2.1 p.2.2.2 hx))
  refine AWP.mono (codeK_of ht hmix c _ _ b _ hb hr) ?_
  rintro e s ⟨t', h', b', rfl, e1, hb', hk⟩
  cases e with
  | normal =>
    obtain ⟨ρ, x', y', z', u', hI, hμ, hs⟩ := hk
    exact ⟨(x', y', z', u'), hI, hμ, (subK_of hs).1⟩
  | exit i => exact ⟨t', h', b', rfl, by rw [e1, putsT_len, keepT_len], hb', hk⟩
  | ret => exact ⟨t', h', b', rfl, by rw [e1, putsT_len, keepT_len], hb', hk⟩
/-! ### choices that are joined -/
inductive JoinB {α : Type} (I : α → Prop) (N b : Nat) (T : α → List V) (H : α → List (Nat × B)) (t : List V) (h : List (Nat × B)) : Prop
  | mk (ρ : List (Nat × Nat)) (y : α) (hI : I y) (hk : subK ρ N b (T y) (H y) t h) : JoinB I N b T H t h
noncomputable def joinK {α : Type} (N b : Nat) (K : Ex → List V → List (Nat × B) → Nat → Prop) (I : α → Prop) (T : α → List V) (H : α → List (Nat × B)) : Ex → List V → List (Nat × B) → Nat → Prop := fun e t h b' =>
  match e with
  | .normal => JoinB I N b T H t h
  | .exit i => K (.exit i) t h b'
  | .ret => K .ret t h b'
/-- behind a choice: the slots of l and the names of hs stay, tv and hv are what the branches differ in -/
theorem joinB (ht : TabOk P tab) (hmix : P.follows .mixedOrders = true) {N : Nat} {c : Code} {t : List V} {h : List (Nat × B)} {b : Nat} {K : Ex → List V → List (Nat × B) → Nat → Prop} {α : Type} (l : List Nat) (hs : List Nat) (tv : α → List (Nat × V)) (hv : α → List (Nat × B)) (I : α → Prop)
    (hk : stepK P tab N c t h b (joinK N b K I (fun y => putsT (tv y) (keepT 0 l t)) (fun y => hv y ++ keepH hs h))) (next : ∀ y, I y → headsK (putsT (tv y) (keepT 0 l t)) fun t => listK (hv y ++ keepH hs h) fun h => K .normal t h b) : StepB P tab N c t h b K := by
  refine ⟨fun hb => ?_⟩
  intro F ids w a hr
  refine wp_mono (stepK_of ht hmix hk hb F ids w a hr) ?_
  rintro e a' w' ⟨x, s', ids', hx, ⟨t', h', b', rfl, e1, hb', hq⟩, hr', hkp⟩
  cases x with
  | exit i => exact ⟨.exit i, _, ids', hx, ⟨t', h', b', rfl, e1, hb', hq⟩, hr', hkp⟩
  | ret => exact ⟨.ret, _, ids', hx, ⟨t', h', b', rfl, e1, hb', hq⟩, hr', hkp⟩
  | normal =>
    obtain ⟨ρ, y, hI, hsub⟩ := hq
    obtain ⟨hs1, hs2⟩ := subK_of (b' := b') hsub
    obtain ⟨ids2, hr2, hk2⟩ := hs1 F ids' w' a' hr'
    exact ⟨.normal, _, ids2, hx, ⟨_, _, b, rfl, hs2.trans e1, hb, listK_of (headsK_of (next y hI))⟩, hr2, hkp.trans hk2⟩
end
end Go.Proofs.Ytmihhkcbbdpnaaa.Abs
