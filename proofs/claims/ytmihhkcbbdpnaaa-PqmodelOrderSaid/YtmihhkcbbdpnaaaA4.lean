/- The abstract machine, part 4: the operations do in a world what they do on states. -/
import Derived.Test.YtmihhkcbbdpnaaaA3
namespace Go.Proofs.Ytmihhkcbbdpnaaa.Abs
section
variable {P : Program} {tab : Tab}

theorem TyOk.desc {t : TypeId} {τ : Ty} (h : TyOk P t τ) : ∃ d, (∀ w, (underlying t).run P w = .ok d w) ∧ P.underlying t = some d ∧ Fits d τ.kind τ.agg := by
  obtain ⟨d, hd, hf⟩ := h.under
  exact ⟨d, fun w => run_underlying hd w, hd, hf⟩
theorem TyOk.sizeOf {t : TypeId} {τ : Ty} (h : TyOk P t τ) (w : World) : (sizeOf t).run P w = .ok τ.size w := by
  obtain ⟨i, z, h1, h2, _⟩ := h.info
  simp [Go.sizeOf, typeInfo, h1, h2]
theorem TyOk.typeInfo {t : TypeId} {τ : Ty} (h : TyOk P t τ) (w : World) : ∃ i, (typeInfo t).run P w = .ok i w ∧ i.bytes = τ.bytes := by
  obtain ⟨i, z, h1, _, h2, _⟩ := h.info
  exact ⟨i, by simp [Go.typeInfo, h1], h2⟩
theorem TyOk.isAgg {t : TypeId} {τ : Ty} (h : TyOk P t τ) (w : World) : (isAgg t).run P w = .ok τ.agg w := by
  obtain ⟨d, hd, _, hf⟩ := h.desc
  simp only [Go.isAgg, Sem.run_bind, hd, Result.andThen_ok]
  generalize τ.kind = k at hf
  generalize τ.agg = g at hf
  cases hf with
  | leaf d h => cases d <;> first | rfl | simp at h
  | _ => rfl
theorem TyOk.zero {t : TypeId} {τ : Ty} (h : TyOk P t τ) (w : World) : ∃ z, (zeroValue t).run P w = .ok z w ∧ z.cells = τ.zero.toArray := by
  obtain ⟨i, z, h1, _, _, h2, h3, _⟩ := h.info
  exact ⟨z, by simp [zeroValue, Go.typeInfo, h1, h2], by rw [← h3]⟩

theorem RepV.leaf1 {A : Nat → Prop} {ids : Nat → Nat × Nat} {w : World} {x : V} {v : Value} (h : RepV A ids w x v) (hl : x.leaf = true) : v.oneCell' = true := by
  cases h with
  | un v => simp [V.leaf] at hl
  | c v => exact hl
  | lst sz rows clip v h _ => cases h <;> rfl
  | agg xs arr hs h => simp [V.leaf] at hl
  | tup xs arr hs h => simp [V.leaf] at hl
  | ac1 n sz len v h0 h => cases h; rfl
  | _ => rfl

theorem oneCell_cells {v : Value} (h : v.oneCell' = true) : v.cells = #[v] := by cases v <;> first | rfl | simp [Value.oneCell'] at h

/-- the cells of a value are represented one by one -/
theorem RepV.cells {A : Nat → Prop} {ids : Nat → Nat × Nat} {w : World} {x : V} {v : Value} {xs : List V} (h : RepV A ids w x v) (hx : x.cells = some xs) :
    v.cells.size = xs.length ∧ ∀ (i : Nat) (y : V) (u : Value), xs[i]? = some y → v.cells[i]? = some u → RepV A ids w y u := by
  by_cases hl : x.leaf = true
  · have h1 := h.leaf1 hl
    have hxs : xs = [x] := by
      cases x <;> simp [V.cells, V.leaf] at hx hl <;> simp_all
    subst hxs
    rw [oneCell_cells h1]
    refine ⟨rfl, fun i y u hy hu => ?_⟩
    cases i with
    | zero => simp at hy hu; subst hy; subst hu; exact h
    | succ i => simp at hy
  · cases x with
    | agg ys =>
      simp only [V.cells, Option.some.injEq] at hx
      subst hx
      cases h with
      | agg _ arr hs hr => exact ⟨hs, hr⟩
    | _ => simp [V.cells, V.leaf] at hx hl <;> simp_all

theorem V.cells_below {m : Nm} {x : V} {xs : List V} (hb : x.Below m) (hx : x.cells = some xs) : ∀ y ∈ xs, y.Below m := by
  cases x with
  | agg ys => simp only [V.cells, Option.some.injEq] at hx; subst hx; cases hb with | agg _ h => exact h
  | un => simp [V.cells, V.leaf] at hx
  | tup ys => simp [V.cells, V.leaf] at hx
  | _ =>
    simp only [V.cells] at hx
    split at hx
    · cases hx; intro y hy; simp at hy; subst hy; exact hb
    · cases hx

theorem RepV.int_inv {A : Nat → Prop} {ids : Nat → Nat × Nat} {w : World} {u v : Value} (h : RepV A ids w (.c u) v) : v = u := by cases h; rfl

/-! ### loading -/
theorem loadVar_run (w : World) {t : TypeId} {τ : Ty} (h : TyOk P t τ) (b o : Nat) (c : Nat → Value) (hc : ∀ k, k < (if τ.agg then τ.size else 1) → w.cell? ⟨b, o + k, none⟩ = some (c k)) :
    (loadVar t ⟨b, o, none⟩).run P w = .ok (if τ.agg then .agg ((List.range τ.size).map c).toArray else c 0) w := by
  simp only [loadVar, Sem.run_bind, h.isAgg, Result.andThen_ok]
  cases ha : τ.agg with
  | true =>
    simp only [ha, if_true] at hc
    simp only [if_true, Sem.run_bind, h.sizeOf, Result.andThen_ok, loadCells_run P w b o τ.size c hc, Sem.run_pure]
  | false =>
    simp only [ha, Bool.false_eq_true, if_false] at hc ⊢
    have := hc 0 (by omega)
    simp only [Nat.add_zero] at this
    simp [this]

theorem loadRow_sound {A : Nat → Prop} {ids : Nat → Nat × Nat} {w : World} {t : TypeId} {τ : Ty} (h : TyOk P t τ) {row : List V} {j b o : Nat} {v : V} (hl : loadRow τ row j = some v)
    (hc : ∀ (k : Nat) (x : V), row[k]? = some x → ∃ u, w.cell? ⟨b, o + k, none⟩ = some u ∧ RepV A ids w x u) :
    ∃ val, (loadVar t ⟨b, o + j, none⟩).run P w = .ok val w ∧ RepV A ids w v val := by
  have hcell : ∀ k, k < row.length → ∃ u, w.cell? ⟨b, o + k, none⟩ = some u ∧ ∀ x, row[k]? = some x → RepV A ids w x u := by
    intro k hk
    obtain ⟨u, h1, h2⟩ := hc k row[k] (by simp [hk])
    exact ⟨u, h1, fun x hx => by simp [hk] at hx; subst hx; exact h2⟩
  let c : Nat → Value := fun k => (w.cell? ⟨b, o + j + k, none⟩).getD default
  unfold loadRow at hl
  split at hl
  · next ha =>
    split at hl
    · next hsz =>
      cases hl
      refine ⟨_, loadVar_run w h b (o + j) c ?_, ?_⟩
      · intro k hk
        rw [if_pos ha] at hk
        obtain ⟨u, h1, _⟩ := hcell (j + k) (by omega)
        rw [← Nat.add_assoc] at h1
        simp [c, h1]
      · rw [if_pos ha]
        refine .agg _ _ (by simp; omega) fun i x u hx hu => ?_
        have hi : i < τ.size := by
          have := (List.getElem?_eq_some_iff.1 hx).1; simp at this; omega
        rw [List.getElem?_take_of_lt hi, List.getElem?_drop] at hx
        simp [hi] at hu
        obtain ⟨u', h1, h2⟩ := hc (j + i) x hx
        rw [← Nat.add_assoc] at h1
        have : c i = u' := by simp [c, h1]
        rw [← hu, this]; exact h2
    · cases hl
  · next ha =>
    refine ⟨_, loadVar_run w h b (o + j) c ?_, ?_⟩
    · intro k hk
      rw [if_neg ha] at hk
      obtain rfl : k = 0 := by omega
      obtain ⟨u, h1, _⟩ := hc j v hl
      simp [c, h1]
    · rw [if_neg ha]
      obtain ⟨u', h1, h2⟩ := hc j v hl
      have : c 0 = u' := by simp [c, h1]
      rw [this]; exact h2

theorem rowsOf_some {h : Hp} {n sz : Nat} {r : List (List V)} (hr : rowsOf h n sz = some r) : h n = some (.rows sz r) := by
  unfold rowsOf at hr
  split at hr
  · next sz' r' e => split at hr <;> simp_all
  · cases hr
theorem datOf_some {h : Hp} {n sz : Nat} {r : List (List D)} (hr : datOf h n sz = some r) : h n = some (.dat sz r) := by
  unfold datOf at hr
  split at hr
  · next sz' r' e => split at hr <;> simp_all
  · cases hr
theorem dat_real {sz : Nat} {r : List (List D)} (h : r ≠ []) : (B.dat sz r).real = true := by
  cases r with
  | nil => exact absurd rfl h
  | cons _ _ => rfl
theorem toVs_get (r : List (List D)) (i : Nat) : (toVs r)[i]? = (r[i]?).map fun row => row.map D.toV := by simp [toVs]

theorem RepR.cell {A : Nat → Prop} {ids : Nat → Nat × Nat} {w : World} {p : Nat × Nat} {sz i j : Nat} {r : List (List V)} {row : List V} {x : V} (h : RepR A ids w p sz r)
    (hi : r[i]? = some row) (hj : row[j]? = some x) : ∃ u, w.cell? ⟨p.1, p.2 + (i * sz + j), none⟩ = some u ∧ RepV A ids w x u := by
  obtain ⟨arr, T, h1, _, _, h4⟩ := h
  obtain ⟨v, hv, hr⟩ := h4 i row j x hi hj
  exact ⟨v, by rw [cell_of h1]; exact hv, hr⟩
/-- a cell of a named row -/
theorem RepH.cell {F : Nat → Prop} {ids : Nat → Nat × Nat} {w : World} {h : Hp} {nx : Nm} (hh : RepH F ids w h nx) {n sz i j : Nat} {r : List (List V)} {row : List V} {x : V} (hn : h n = some (.rows sz r))
    (hi : r[i]? = some row) (hj : row[j]? = some x) : ∃ u, w.cell? ⟨(ids n).1, (ids n).2 + (i * sz + j), none⟩ = some u ∧ RepV (Avoid F h ids) ids w x u :=
  RepR.cell (hh.blk n _ hn) hi hj
theorem RepH.cellD {F : Nat → Prop} {ids : Nat → Nat × Nat} {w : World} {h : Hp} {nx : Nm} (hh : RepH F ids w h nx) {n sz i j : Nat} {r : List (List D)} {row : List D} {x : V} (hn : h n = some (.dat sz r))
    (hi : r[i]? = some row) (hj : (row.map D.toV)[j]? = some x) : ∃ u, w.cell? ⟨(ids n).1, (ids n).2 + (i * sz + j), none⟩ = some u ∧ RepV (Avoid F h ids) ids w x u :=
  RepR.cell ((hh.blk n _ hn).1 (by rintro rfl; simp at hi)) (row := row.map D.toV) (by rw [toVs_get, hi]; rfl) hj

theorem loadV_sound (ht : TabOk P tab) {F : Nat → Prop} {ids : Nat → Nat × Nat} {w : World} {h : Hp} {nx : Nm} (hh : RepH F ids w h nx) {t : TypeId} {a v : V} {va : Value}
    (ha : RepV (Avoid F h ids) ids w a va) (hl : loadV tab h t a = some v) :
    ∃ val, (Instr.loadAt t va).run P w = .ok val w ∧ RepV (Avoid F h ids) ids w v val ∧ v.Below nx := by
  unfold loadV at hl
  rw [Option.bind_eq_some_iff] at hl
  obtain ⟨τ, hτ, hl⟩ := hl
  have hbel : ∀ (row : List V) (j : Nat), (∀ x ∈ row, x.Below nx) → loadRow τ row j = some v → v.Below nx := by
    intro row j hb hl
    unfold loadRow at hl
    split at hl
    · split at hl
      · cases hl; exact .agg _ fun x hx => hb x (List.mem_of_mem_drop (List.mem_of_mem_take hx))
      · cases hl
    · exact hb v (List.mem_of_getElem? hl)
  cases a with
  | p n sz i j =>
    cases ha
    dsimp only at hl
    split at hl
    · next sz' r hn =>
      split at hl
      case isFalse => cases hl
      next hsz =>
      subst hsz
      rw [Option.bind_eq_some_iff] at hl
      obtain ⟨row, hi, hl⟩ := hl
      obtain ⟨val, h1, h2⟩ := loadRow_sound (b := (ids n).1) (o := (ids n).2 + i * sz') (ht t τ hτ) hl (fun k x hx => by
        obtain ⟨u, h1, h2⟩ := hh.cell hn hi hx
        exact ⟨u, by rw [Nat.add_assoc]; exact h1, h2⟩)
      refine ⟨val, ?_, h2, hbel row j (fun x hx => hh.below n _ hn row (List.mem_of_getElem? hi) x hx) hl⟩
      rw [Nat.add_assoc] at h1
      simp only [Instr.loadAt, Instr.sureAddr, Sem.run_bind, Sem.run_pure, Result.andThen_ok, h1]
    · next sz' r hn =>
      split at hl
      case isFalse => cases hl
      next hsz =>
      subst hsz
      rw [Option.bind_eq_some_iff] at hl
      obtain ⟨row, hi, hl⟩ := hl
      obtain ⟨val, h1, h2⟩ := loadRow_sound (b := (ids n).1) (o := (ids n).2 + i * sz') (ht t τ hτ) hl (fun k x hx => by
        obtain ⟨u, h1, h2⟩ := hh.cellD hn hi hx
        exact ⟨u, by rw [Nat.add_assoc]; exact h1, h2⟩)
      refine ⟨val, ?_, h2, hbel (row.map D.toV) j (fun x hx => by obtain ⟨d, _, rfl⟩ := List.mem_map.1 hx; exact d.toV_below nx) hl⟩
      rw [Nat.add_assoc] at h1
      simp only [Instr.loadAt, Instr.sureAddr, Sem.run_bind, Sem.run_pure, Result.andThen_ok, h1]
    · cases hl
  | q row j =>
    cases ha with
    | q _ _ b o cell hb hA hc hd =>
      obtain ⟨val, h1, h2⟩ := loadRow_sound (A := Avoid F h ids) (ids := ids) (w := w) (b := b) (o := o) (ht t τ hτ) hl (fun k x hx => by
        rw [List.getElem?_map, Option.map_eq_some_iff] at hx
        obtain ⟨d, hd', rfl⟩ := hx
        exact ⟨_, hc k d hd', (hd k d hd').toV⟩)
      refine ⟨val, ?_, h2, hbel _ j (fun x hx => by simp at hx; obtain ⟨d, _, rfl⟩ := hx; exact d.toV_below nx) hl⟩
      simp only [Instr.loadAt, Instr.sureAddr, Sem.run_bind, Sem.run_pure, Result.andThen_ok, h1]
  | _ => simp at hl

/-! ### storing -/
theorem spliceV_get {α : Type} (row : List α) (j : Nat) (xs : List α) (k : Nat) (h : j + xs.length ≤ row.length) :
    (spliceV row j xs)[k]? = if j ≤ k ∧ k < j + xs.length then xs[k - j]? else row[k]? := by
  unfold spliceV
  by_cases h1 : k < j
  · rw [if_neg (by omega), List.getElem?_append_left (by simp; omega), List.getElem?_take_of_lt h1]
  · rw [List.getElem?_append_right (by simp; omega)]
    simp only [List.length_take]
    rw [show min j row.length = j by omega]
    by_cases h2 : k < j + xs.length
    · rw [if_pos (by omega), List.getElem?_append_left (by omega)]
    · rw [if_neg (by omega), List.getElem?_append_right (by omega), List.getElem?_drop]
      congr 1; omega
theorem spliceV_length {α : Type} (row : List α) (j : Nat) (xs : List α) (h : j + xs.length ≤ row.length) : (spliceV row j xs).length = row.length := by
  unfold spliceV; simp; omega
theorem spliceV_mem {α : Type} {row : List α} {j : Nat} {xs : List α} {x : α} (h : x ∈ spliceV row j xs) : x ∈ row ∨ x ∈ xs := by
  unfold spliceV at h
  simp only [List.mem_append] at h
  rcases h with h | h | h
  · exact .inl (List.mem_of_mem_take h)
  · exact .inr h
  · exact .inl (List.mem_of_mem_drop h)

/-- cells of rows lie apart -/
theorem row_apart {i i' sz j j' : Nat} (h : i ≠ i') (hj : j < sz) (hj' : j' < sz) : i * sz + j ≠ i' * sz + j' := by
  intro e
  rcases Nat.lt_or_gt_of_ne h with h | h
  · have : (i + 1) * sz ≤ i' * sz := Nat.mul_le_mul_right _ h
    rw [Nat.add_mul] at this; omega
  · have : (i' + 1) * sz ≤ i * sz := Nat.mul_le_mul_right _ h
    rw [Nat.add_mul] at this; omega
theorem row_in {i sz j n : Nat} (h : i < n) (hj : j < sz) : i * sz + j < n * sz := by
  have : (i + 1) * sz ≤ n * sz := Nat.mul_le_mul_right _ h
  rw [Nat.add_mul] at this; omega

/-- writing the cells vs (that stand for xs) into row i of the block n -/
theorem Chg.storeRow {F : Nat → Prop} {ids : Nat → Nat × Nat} {w : World} {h : Hp} {nx : Nm} {n sz i j : Nat} (hh : RepH F ids w h nx) {r : List (List V)} {row : List V} {xs : List V} {vs : List Value}
    (hn : h n = some (.rows sz r)) (hi : r[i]? = some row) (hj : j + xs.length ≤ row.length) (hlen : vs.length = xs.length) (hx : ∀ (k : Nat) (x : V) (v : Value), xs[k]? = some x → vs[k]? = some v → RepV (Avoid F h ids) ids w x v)
    (hb : ∀ x ∈ xs, x.Below nx) (hone : ∀ v ∈ vs, v.oneCell' = true) :
    ∃ w', (storeCells ⟨(ids n).1, (ids n).2 + (i * sz + j), none⟩ vs).run P w = .ok () w' ∧ Chg F ids w h nx ids w' (upd h n (some (.rows sz (r.set i (spliceV row j xs))))) nx := by
  obtain ⟨arr, T, h1, h2, h3, h4⟩ := hh.blk n _ hn
  have hil := (List.getElem?_eq_some_iff.1 hi).1
  have hrow := h3 row (List.mem_of_getElem? hi)
  have hin : i * sz + row.length ≤ r.length * sz := by
    have : (i + 1) * sz ≤ r.length * sz := Nat.mul_le_mul_right _ hil
    rw [Nat.add_mul] at this; omega
  have hrun := storeCells_run P (ids n).1 T vs hone w ((ids n).2 + (i * sz + j)) 0 arr h1 (by omega)
  by_cases hv : vs = []
  · subst hv
    have hxs : xs = [] := List.length_eq_zero_iff.1 (by simpa using hlen.symm)
    subst hxs
    refine ⟨w, by simpa using hrun, ?_⟩
    have hs : r.set i (spliceV row j []) = r := by
      have : spliceV row j [] = row := by simp [spliceV]
      rw [this]; exact List.set_getElem_self hil ▸ by rw [List.getElem?_eq_some_iff] at hi; obtain ⟨_, e⟩ := hi; rw [← e]; simp
    rw [hs]
    have hu : upd h n (some (.rows sz r)) = h := by funext m; unfold upd; split <;> simp_all
    rw [hu]
    exact Chg.refl hh
  · rw [if_neg hv] at hrun
    refine ⟨_, hrun, ?_⟩
    refine Chg.write hh hn rfl _ _ h1 (fun arr' T' fz e => by cases e; exact ⟨_, rfl, splice_size _ _ _⟩) (fun es k e => by cases e) ?_ ?_
    · intro row' hr' x hx'
      rcases List.mem_or_eq_of_mem_set hr' with hr' | rfl
      · exact hh.below n _ hn row' hr' x hx'
      · rcases spliceV_mem hx' with hx' | hx'
        · exact hh.below n _ hn row (List.mem_of_getElem? hi) x hx'
        · exact hb x hx'
    · intro A hA
      have hgo : Goes (Avoid F h ids) w (World.put w (ids n).1 (.cells (splice arr ((ids n).2 + (i * sz + j) + 0) vs) T (0, 0))) := by
        refine ⟨Nat.le_of_eq (put_size _ _ _).symm, fun c _ hc => put_other _ _ _ _ fun e => hc (.inr ⟨n, _, hn, rfl, e.symm⟩), fun c arr' T' fz hc => ?_, fun c es k hc => ?_, ⟨rfl, rfl⟩, fun a => ?_⟩
        · by_cases e : c = (ids n).1
          · subst e
            rw [h1] at hc; cases hc
            exact ⟨_, put_same _ _ _ (Array.getElem?_eq_some_iff.1 h1).1, splice_size _ _ _⟩
          · exact ⟨arr', by rw [put_other _ _ _ _ e]; exact hc, rfl⟩
        · by_cases e : c = (ids n).1
          · subst e; rw [h1] at hc; cases hc
          · exact ⟨es, k, by rw [put_other _ _ _ _ e]; exact hc⟩
        · by_cases e : a.block = (ids n).1
          · exact frozen_cells (by rw [e]; exact h1) (by rw [e, put_same _ _ _ (Array.getElem?_eq_some_iff.1 h1).1])
          · exact frozen_same (put_other _ _ _ _ e)
      refine ⟨_, T, put_same _ _ _ (Array.getElem?_eq_some_iff.1 h1).1, by rw [splice_size]; simpa using h2, ?_, ?_⟩
      · intro row' hr'
        rcases List.mem_or_eq_of_mem_set hr' with hr' | rfl
        · exact h3 row' hr'
        · rw [spliceV_length _ _ _ hj]; exact hrow
      · intro i' row' j' x hi' hj'
        rw [splice_get _ _ _ _ (by omega)]
        by_cases e : i' = i
        · subst e
          rw [List.getElem?_set_self hil] at hi'
          cases hi'
          rw [spliceV_get _ _ _ _ hj] at hj'
          by_cases hk : j ≤ j' ∧ j' < j + xs.length
          · rw [if_pos hk] at hj'
            rw [if_pos (by omega)]
            have hkl : j' - j < vs.length := by omega
            refine ⟨vs[j' - j], by rw [show (ids n).2 + (i' * sz + j') - ((ids n).2 + (i' * sz + j) + 0) = j' - j by omega]; simp [hkl], ?_⟩
            exact (hx (j' - j) x _ hj' (by simp [hkl])).mono hgo hA (fun _ _ => rfl) (hb x (List.mem_of_getElem? hj'))
          · rw [if_neg hk] at hj'
            rw [if_neg (by omega)]
            obtain ⟨v, hv', hr'⟩ := h4 i' row j' x hi hj'
            exact ⟨v, hv', hr'.mono hgo hA (fun _ _ => rfl) (hh.below n _ hn row (List.mem_of_getElem? hi) x (List.mem_of_getElem? hj'))⟩
        · rw [List.getElem?_set_ne (Ne.symm e)] at hi'
          have hrow' := h3 row' (List.mem_of_getElem? hi')
          have hjl := (List.getElem?_eq_some_iff.1 hj').1
          have hap : ∀ k, k < vs.length → i' * sz + j' ≠ i * sz + (j + k) := fun k hk => row_apart e (by omega) (by omega)
          rw [if_neg (by
            rintro ⟨a1, a2⟩
            exact hap (i' * sz + j' - (i * sz + j)) (by omega) (by omega))]
          obtain ⟨v, hv', hr'⟩ := h4 i' row' j' x hi' hj'
          exact ⟨v, hv', hr'.mono hgo hA (fun _ _ => rfl) (hh.below n _ hn row' (List.mem_of_getElem? hi') x (List.mem_of_getElem? hj'))⟩

theorem toDs_map : ∀ {xs : List V} {ds : List D}, toDs xs = some ds → ds.length = xs.length ∧ (∀ x ∈ xs, x.leaf = true) ∧ ∀ (k : Nat) (x : V) (d : D), xs[k]? = some x → ds[k]? = some d → x.toD = some d
  | [], ds, h => by simp only [toDs, Option.some.injEq] at h; subst h; exact ⟨rfl, by simp, by simp⟩
  | x :: xs, ds, h => by
    simp only [toDs, Option.bind_eq_some_iff, Option.map_eq_some_iff] at h
    obtain ⟨d, hd, ds', hds, rfl⟩ := h
    obtain ⟨h1, h2, h3⟩ := toDs_map hds
    refine ⟨by simp [h1], fun y hy => ?_, fun k y e hy he => ?_⟩
    · rcases List.mem_cons.1 hy with rfl | hy
      · cases y with
        | c v => simp only [V.toD] at hd; split at hd; assumption; cases hd
        | lst sz rows cl => rfl
        | _ => cases hd
      · exact h2 y hy
    · cases k with
      | zero => simp at hy he; subst hy; subst he; exact hd
      | succ k => exact h3 k y e (by simpa using hy) (by simpa using he)
theorem toD_leaf {x : V} {d : D} (hd : x.toD = some d) : d.leaf = true := by
  cases x with
  | c u => simp only [V.toD] at hd; split at hd; (next h1 => cases hd; exact h1); cases hd
  | lst sz rows cl => cases hd; rfl
  | _ => cases hd
theorem toD_rep {A : Nat → Prop} {ids : Nat → Nat × Nat} {w : World} {x : V} {d : D} {v : Value} (hd : x.toD = some d) (h : RepV A ids w x v) : RepD A w d v := by
  cases x with
  | c u => simp only [V.toD] at hd; split at hd; (next h1 => cases hd; cases h; exact .c _ h1); cases hd
  | lst sz rows cl => cases hd; cases h with | lst _ _ _ _ h _ => exact h
  | _ => cases hd

theorem storeV_sound (ht : TabOk P tab) {F : Nat → Prop} {ids : Nat → Nat × Nat} {w : World} {h h' : Hp} {nx : Nm} (hh : RepH F ids w h nx) {t : TypeId} {a x : V} {va vx : Value}
    (ha : RepV (Avoid F h ids) ids w a va) (hx : RepV (Avoid F h ids) ids w x vx) (hb : x.Below nx) (hl : storeV tab h t a x = some h') :
    ∃ w', (Instr.storeAt t va vx).run P w = .ok () w' ∧ Chg F ids w h nx ids w' h' nx := by
  unfold storeV at hl
  rw [Option.bind_eq_some_iff] at hl
  obtain ⟨τ, hτ, hl⟩ := hl
  cases a with
  | p n sz i j =>
    dsimp only at hl
    split at hl
    · next sz' r hr =>
      split at hl
      case isFalse => cases hl
      next hsz =>
      subst hsz
      simp only [Option.bind_eq_some_iff] at hl
      obtain ⟨row, hi, xs, hxs, hl⟩ := hl
      split at hl
      · next hc =>
        cases hl
        cases ha
        obtain ⟨c1, c2, c3⟩ := hc
        obtain ⟨s1, s2⟩ := hx.cells hxs
        have hone : ∀ v ∈ vx.cells.toList, v.oneCell' = true := by
          intro v hv
          obtain ⟨k, hk, rfl⟩ := List.getElem_of_mem hv
          have hk' : k < xs.length := by simpa [s1] using hk
          have hleaf : (xs[k]).leaf = true := List.all_eq_true.1 c3 _ (List.getElem_mem hk')
          exact (s2 k xs[k] _ (by simp [hk']) (by simp at hk; simp [hk])).leaf1 hleaf
        obtain ⟨w', h1, h2⟩ := Chg.storeRow (P := P) hh hr hi c2 (vs := vx.cells.toList) (by simpa using s1) (fun k y v hy hv => s2 k y v hy (by simpa using hv)) (V.cells_below hb hxs) hone
        refine ⟨w', ?_, h2⟩
        simp only [Instr.storeAt, Instr.sureAddr, Sem.run_bind, Sem.run_pure, Result.andThen_ok, storeVar, (ht t τ hτ).sizeOf, s1, c1, ne_eq, not_true_eq_false, if_false, Sem.run_pure, h1]
      · cases hl
    · next sz' r hr =>
      split at hl
      case isFalse => cases hl
      next hsz =>
      subst hsz
      simp only [Option.bind_eq_some_iff] at hl
      obtain ⟨row, hi, xs, hxs, ds, hds, hl⟩ := hl
      split at hl
      case isFalse => cases hl
      next hc =>
      cases hl
      cases ha
      obtain ⟨c1, c2⟩ := hc
      obtain ⟨t1, t2, t3⟩ := toDs_map hds
      obtain ⟨s1, s2⟩ := hx.cells hxs
      have hone : ∀ v ∈ vx.cells.toList, v.oneCell' = true := by
        intro v hv
        obtain ⟨k, hk, rfl⟩ := List.getElem_of_mem hv
        have hk' : k < xs.length := by simpa [s1] using hk
        exact (s2 k xs[k] _ (by simp [hk']) (by simp at hk; simp [hk])).leaf1 (t2 _ (List.getElem_mem hk'))
      have hre : (B.dat sz' r).real = true := dat_real (by rintro rfl; simp at hi)
      have hsee := Chg.see hh hr hre
      obtain ⟨w', h1, h2⟩ := Chg.storeRow (P := P) (n := n) (sz := sz') (i := i) (j := j) (r := toVs r) (row := row.map D.toV) (xs := ds.map D.toV) hsee.heap (upd_same _ _ _) (by rw [toVs_get, hi]; rfl) (by simpa using c2) (vs := vx.cells.toList) (by simp [s1, t1])
        (fun k y v hy hv => by
          rw [List.getElem?_map, Option.map_eq_some_iff] at hy
          obtain ⟨d, hd, rfl⟩ := hy
          have hk : k < xs.length := by rw [← t1]; exact (List.getElem?_eq_some_iff.1 hd).1
          have hxk : xs[k]? = some xs[k] := by simp [hk]
          exact (toD_rep (t3 k _ d hxk hd) (hsee.rep (s2 k _ v hxk (by simpa using hv)) (V.cells_below hb hxs _ (List.getElem_mem hk)))).toV)
        (fun y hy => by obtain ⟨d, _, rfl⟩ := List.mem_map.1 hy; exact d.toV_below nx) hone
      have hrow : (toVs r).set i (spliceV (row.map D.toV) j (ds.map D.toV)) = toVs (r.set i (spliceV row j ds)) := by
        unfold toVs spliceV
        rw [List.map_set]
        simp
      rw [hrow] at h2
      have hlv : leaves (r.set i (spliceV row j ds)) := by
        have h0 := (hh.blk n _ hr).2
        intro row' hr'
        rcases List.mem_or_eq_of_mem_set hr' with hr' | rfl
        · exact h0 row' hr'
        · rw [List.all_eq_true]
          intro d hd
          rcases spliceV_mem hd with hd | hd
          · exact List.all_eq_true.1 (h0 row (List.mem_of_getElem? hi)) d hd
          · obtain ⟨k, hk⟩ := List.getElem?_of_mem hd
            have hk' : k < xs.length := by rw [← t1]; exact (List.getElem?_eq_some_iff.1 hk).1
            exact toD_leaf (t3 k _ d (by simp [hk'] : xs[k]? = some xs[k]) hk)
      have h3 := Chg.unsee (n := n) (sz := sz') (r := r.set i (spliceV row j ds)) h2.heap (upd_same _ _ _) hlv
      have e : ∀ (b1 b2 b3 : Option B), upd (upd (upd h n b1) n b2) n b3 = upd h n b3 := fun b1 b2 b3 => by funext m; unfold upd; split <;> rfl
      have h4 := (hsee.trans h2).trans h3
      rw [e] at h4
      refine ⟨w', ?_, h4⟩
      simp only [Instr.storeAt, Instr.sureAddr, Sem.run_bind, Sem.run_pure, Result.andThen_ok, storeVar, (ht t τ hτ).sizeOf, s1, ← t1, c1, ne_eq, not_true_eq_false, if_false, Sem.run_pure, h1]
    · cases hl
  | _ => simp at hl
end
end Go.Proofs.Ytmihhkcbbdpnaaa.Abs
