/- The abstract machine, part 10: all operations in one theorem. -/
import Derived.Test.YtmihhkcbbdpnaaaA9
namespace Go.Proofs.Ytmihhkcbbdpnaaa.Abs
section
variable {P : Program} {tab : Tab}

theorem sliceElem_desc (ht : TabOk P tab) {t : TypeId} {ε : Ty} (h : sliceElem tab t = some ε) : ∃ e, (∀ w, (underlying t).run P w = .ok (.slice e) w) ∧ TyOk P e ε := by
  obtain ⟨τ, e, hτ, hk, he⟩ := sliceElem_some h
  exact ⟨e, slice_desc ht hτ hk, ht e ε he⟩

theorem all2_map {α β γ : Type} {R : β → γ → Prop} (f : α → β) (g : α → γ) (h : ∀ a, R (f a) (g a)) (l : List α) : All2 R (l.map f) (l.map g) := by
  induction l with
  | nil => exact .nil
  | cons a l ih => exact .cons (h a) ih

theorem zero_stands {A : Nat → Prop} {ids : Nat → Nat × Nat} {w : World} (l : List Value) (arr : Array Value) (h : arr.toList = l) : Stands A ids w (l.map .c) arr := by
  subst h
  refine ⟨by simp, fun i x v hx hv => ?_⟩
  rw [List.getElem?_map, Array.getElem?_toList, hv] at hx
  simp at hx; subst hx; exact .c v

theorem mapM_places (fields : List Field) (w : World) (h : ∀ f ∈ fields, ∃ n, ∀ w, (sizeOf f.type).run P w = .ok n w) :
    ∃ l : List (Nat × Nat), (fields.mapM (fun (f : Field) => (do pure (f.offset, ← sizeOf f.type) : Sem (Nat × Nat)))).run P w = .ok l w ∧ l.length = fields.length ∧
      ∀ (i : Nat) (f : Field) (n : Nat), fields[i]? = some f → (∀ w, (sizeOf f.type).run P w = .ok n w) → l[i]? = some (f.offset, n) := by
  induction fields with
  | nil => exact ⟨[], rfl, rfl, by simp⟩
  | cons f fs ih =>
    obtain ⟨l, h1, h2, h3⟩ := ih (fun f hf => h f (by simp [hf]))
    obtain ⟨n, hn⟩ := h f (by simp)
    refine ⟨(f.offset, n) :: l, ?_, by simp [h2], fun i g m hi hm => ?_⟩
    · simp only [List.mapM_cons, Sem.run_bind, hn, Result.andThen_ok, Sem.run_pure, h1]
    · cases i with
      | zero =>
        simp at hi; subst hi
        have := (hn w).symm.trans (hm w)
        simp at this; simp [this]
      | succ i => simp at hi ⊢; exact h3 i g m hi hm

theorem build_sound (ht : TabOk P tab) {A : Nat → Prop} {ids : Nat → Nat × Nat} {w : World} {t : TypeId} {parts : List (Nat × V)} {vparts : Array (Nat × Value)} {v : V}
    (hp : All2 (fun p q => p.1 = q.1 ∧ RepV A ids w p.2 q.2) parts vparts.toList) (h : buildV tab t parts = some v) {nx : Nm} (hb : ∀ p ∈ parts, p.2.Below nx) :
    ∃ val, (Instr.build t vparts).run P w = .ok val w ∧ RepV A ids w v val ∧ v.Below nx := by
  unfold buildV at h
  rw [Option.bind_eq_some_iff] at h
  obtain ⟨τ, hτ, h⟩ := h
  obtain ⟨z, hz, hzc⟩ := (ht t τ hτ).zero w
  obtain ⟨d, h1, _, hf⟩ := (ht t τ hτ).desc
  have hzb : ∀ x ∈ τ.zero.map V.c, x.Below nx := by simp only [List.mem_map]; rintro x ⟨v, _, rfl⟩; exact .c v
  generalize τ.agg = g at hf
  generalize hkk : τ.kind = k at hf h
  cases hf <;> simp only [reduceCtorEq] at h
  case struct fields l hl hu =>
    split at h
    case isFalse => cases h
    next hall =>
    rw [Option.map_eq_some_iff] at h
    obtain ⟨cs, hcs, rfl⟩ := h
    rw [List.all_eq_true] at hall
    obtain ⟨pl, p1, p2, p3⟩ := mapM_places (P := P) fields.toList w (fun f hf => by
      have := hall (f.offset, f.type) (by rw [← hl]; exact List.mem_map_of_mem hf)
      obtain ⟨τ', hτ'⟩ := Option.isSome_iff_exists.1 this
      exact ⟨τ'.size, (ht _ _ hτ').sizeOf⟩)
    have hplace : (fun i => (pl.toArray)[i]?) = (fun (i : Nat) => (l[i]?).bind fun p => (tab p.2).map fun τ' => (p.1, τ'.size)) := by
      funext i
      rw [← hl, List.getElem?_map]
      cases hi : fields.toList[i]? with
      | none =>
        have : pl[i]? = none := by rw [List.getElem?_eq_none_iff] at hi ⊢; omega
        simp [this]
      | some f =>
        have := hall (f.offset, f.type) (by rw [← hl]; exact List.mem_map_of_mem (List.mem_of_getElem? hi))
        obtain ⟨τ', hτ'⟩ := Option.isSome_iff_exists.1 this
        simp only at hτ'
        simp [hτ', p3 i f τ'.size hi (ht _ _ hτ').sizeOf]
    rw [← hplace] at hcs
    obtain ⟨arr', a1, a2⟩ := fill_sound parts vparts.toList _ cs z.cells hp (zero_stands τ.zero z.cells (by rw [hzc])) hcs
    refine ⟨.agg arr', ?_, .agg _ _ a2.1 a2.2, .agg _ (fillV_below parts _ cs hb hzb hcs)⟩
    simp only [Instr.build, Sem.run_bind, hz, Result.andThen_ok, h1, Array.mapM_eq_mapM_toList, Sem.run_map, p1, a1, Sem.run_pure]
  case array n e hu =>
    rw [Option.bind_eq_some_iff] at h
    obtain ⟨ε, hε, h⟩ := h
    rw [Option.map_eq_some_iff] at h
    obtain ⟨cs, hcs, rfl⟩ := h
    obtain ⟨arr', a1, a2⟩ := fill_sound parts vparts.toList _ cs z.cells hp (zero_stands τ.zero z.cells (by rw [hzc])) hcs
    refine ⟨.agg arr', ?_, .agg _ _ a2.1 a2.2, .agg _ (fillV_below parts _ cs hb hzb hcs)⟩
    simp only [Instr.build, Sem.run_bind, hz, Result.andThen_ok, h1, (ht e ε hε).sizeOf, a1, Sem.run_pure]

theorem zeroCellsV_get (z : List V) : ∀ (n k : Nat), (zeroCellsV n z)[k]? = if k < n * z.length then z[k % z.length]? else none := by
  intro n
  induction n with
  | zero => intro k; simp [zeroCellsV]
  | succ n ih =>
    intro k
    rw [zeroCellsV]
    by_cases h : k < z.length
    · rw [List.getElem?_append_left h, if_pos (by rw [Nat.add_mul]; omega), Nat.mod_eq_of_lt h]
    · rw [List.getElem?_append_right (by omega), ih]
      by_cases h2 : k < (n + 1) * z.length
      · rw [if_pos h2, if_pos (by rw [Nat.add_mul] at h2; omega), ← Nat.mod_eq_sub_mod (by omega)]
      · rw [if_neg h2, if_neg (by rw [Nat.add_mul] at h2; omega)]
theorem zeroCellsV_length (z : List V) (n : Nat) : (zeroCellsV n z).length = n * z.length := by
  induction n with
  | zero => simp [zeroCellsV]
  | succ n ih => simp [zeroCellsV, ih, Nat.add_mul, Nat.add_comm]

theorem rowsV_length (sz : Nat) : ∀ (n : Nat) (l : List V), (rowsV sz n l).length = n := by
  intro n; induction n with
  | zero => intro l; rfl
  | succ n ih => intro l; simp [rowsV, ih]
theorem rowsV_get (sz : Nat) : ∀ (n : Nat) (l : List V) (i : Nat) (row : List V), (rowsV sz n l)[i]? = some row → row = (l.drop (i * sz)).take sz := by
  intro n; induction n with
  | zero => intro l i row h; simp [rowsV] at h
  | succ n ih =>
    intro l i row h
    cases i with
    | zero => simp [rowsV] at h; simp [h]
    | succ i =>
      simp only [rowsV, List.getElem?_cons_succ] at h
      rw [ih _ i row h, List.drop_drop, Nat.add_mul, Nat.one_mul, Nat.add_comm]

theorem fillV_length {place : Nat → Option (Nat × Nat)} : ∀ (parts : List (Nat × V)) (cells cs : List V), fillV place cells parts = some cs → cs.length = cells.length := by
  intro parts; induction parts with
  | nil => intro cells cs h; simp only [fillV, Option.some.injEq] at h; rw [h]
  | cons p parts ih =>
    intro cells cs h
    obtain ⟨i, x⟩ := p
    simp only [fillV, Option.bind_eq_some_iff] at h
    obtain ⟨q, _, xs, _, h⟩ := h
    split at h
    · next hc => rw [ih _ _ h, spliceV_length _ _ _ hc.2]
    · cases h

theorem Chg.alloc0 {F : Nat → Prop} {ids : Nat → Nat × Nat} {w : World} {h : Hp} {nx : Nm} (hh : RepH F ids w h nx) (o : Obj) (ho : thaw o := by intro _ _ _ h; cases h; rfl) : Chg F ids w h nx ids (w.alloc o) h nx := by
  have hg := Goes.alloc (Avoid F h ids) w o ho
  refine ⟨⟨hh.lt, fun n b hb => (hh.blk n b hb).mono hg (fun _ _ x => x) (fun _ _ => rfl) (hh.below n b hb) (fun hr => ?_), hh.below, hh.inj, hh.out, fun c x => Nat.lt_of_lt_of_le (hh.fsz c x) hg.size⟩, Goes.alloc _ _ _ ho, fun _ _ x => x, fun _ _ => rfl, Nm.le_refl _⟩
  have := (hh.blk n b hb).lt hr
  rw [heap_alloc, Array.getElem?_push, if_neg (by omega)]
theorem dsOf_map : ∀ {rows : List (List V)} {ds : List (List D)}, dsOf rows = some ds → ds.length = rows.length ∧ ∀ (i : Nat) (row : List V) (d : List D), rows[i]? = some row → ds[i]? = some d → toDs row = some d
  | [], ds, h => by simp only [dsOf, Option.some.injEq] at h; subst h; exact ⟨rfl, by simp⟩
  | r :: rs, ds, h => by
    simp only [dsOf, Option.bind_eq_some_iff, Option.map_eq_some_iff] at h
    obtain ⟨d, hd, ds', hds, rfl⟩ := h
    obtain ⟨h1, h2⟩ := dsOf_map hds
    refine ⟨by simp [h1], fun i row e hi he => ?_⟩
    cases i with
    | zero => simp at hi he; subst hi; subst he; exact hd
    | succ i => exact h2 i row e (by simpa using hi) (by simpa using he)

theorem buildSlice_sound (ht : TabOk P tab) {F : Nat → Prop} {ids : Nat → Nat × Nat} {w : World} {h h' : Hp} {nx : Nm} {nm : Nat} (hh : RepH F ids w h nx) (hn : ¬ nx nm) {t : TypeId} {len : Nat} {parts : List (Nat × V)} {vparts : Array (Nat × Value)} {v : V}
    (hp : All2 (fun p q => p.1 = q.1 ∧ RepV (Avoid F h ids) ids w p.2 q.2) parts vparts.toList) (hb : ∀ p ∈ parts, p.2.Below nx) (hs : buildSliceV tab nm h t len parts = some (v, h')) :
    OpOk F ids w h nx ((do pure (Next.value (← Instr.buildSlice t len vparts)) : Sem Next).run P w) v h' (nx.add nm) := by
  unfold buildSliceV at hs
  rw [Option.bind_eq_some_iff] at hs
  obtain ⟨ε, hε, hs⟩ := hs
  split at hs
  case isFalse => cases hs
  next hle =>
  rw [Option.bind_eq_some_iff] at hs
  obtain ⟨cs, hcs, hs⟩ := hs
  obtain ⟨e, h1, hte⟩ := sliceElem_desc ht hε
  obtain ⟨z, hz, hzc⟩ := hte.zero w
  have hzl := hte.zlen
  let zc : Array Value := if len * ε.size = 0 then #[] else z.cells
  have hst : Stands (Avoid F h ids) ids w (zeroCellsV len (ε.zero.map V.c)) ((Array.range (len * ε.size)).map (zc[· % zc.size]!)) := by
    refine ⟨by simp [zeroCellsV_length, hzl], fun i x u hx hu => ?_⟩
    rw [zeroCellsV_get] at hx
    split at hx
    · next hlt =>
      simp only [List.length_map, hzl] at hlt hx
      have hne : len * ε.size ≠ 0 := by omega
      have hsz : 0 < ε.size := Nat.pos_of_ne_zero fun e => by simp [e] at hne
      have hzcs : zc = ε.zero.toArray := by simp only [zc]; rw [if_neg hne, hzc]
      simp only [Array.getElem?_map, Array.getElem?_range, hlt, if_true, Option.map_some, Option.some.injEq, hzcs] at hu
      have hm : i % ε.size < ε.zero.length := by rw [hzl]; exact Nat.mod_lt _ hsz
      rw [List.getElem?_map, List.getElem?_eq_getElem hm] at hx
      simp at hx
      subst hx
      simp only [List.size_toArray, hzl] at hu
      rw [getElem!_pos _ _ (by simpa using hm)] at hu
      simp at hu
      subst hu
      exact .c _
    · cases hx
  obtain ⟨arr', a1, a2⟩ := fill_sound parts vparts.toList _ cs _ hp hst hcs
  have hcl : cs.length = len * ε.size := by rw [fillV_length _ _ _ hcs, zeroCellsV_length]; simp [hzl]
  have hbz : ∀ x ∈ zeroCellsV len (ε.zero.map V.c), x.Below nx := by
    intro x hx
    obtain ⟨k, hk⟩ := List.getElem?_of_mem hx
    rw [zeroCellsV_get] at hk
    split at hk
    · have := List.mem_of_getElem? hk
      simp at this
      obtain ⟨u, _, rfl⟩ := this
      exact .c u
    · cases hk
  have hbc := fillV_below parts _ cs hb hbz hcs
  have hrow : ∀ (i : Nat) (row : List V), (rowsV ε.size len cs)[i]? = some row → row.length = ε.size ∧ ∀ (j : Nat) (x : V), row[j]? = some x → cs[i * ε.size + j]? = some x := by
    intro i row hi
    have hil := (List.getElem?_eq_some_iff.1 hi).1
    rw [rowsV_length] at hil
    obtain rfl := rowsV_get _ _ _ _ _ hi
    have : (i + 1) * ε.size ≤ len * ε.size := Nat.mul_le_mul_right _ hil
    rw [Nat.add_mul] at this
    refine ⟨by simp; omega, fun j x hj => ?_⟩
    have hjl := (List.getElem?_eq_some_iff.1 hj).1
    rw [List.getElem?_take_of_lt (by simp at hjl; omega), List.getElem?_drop] at hj
    exact hj
  have hrun : ((do pure (Next.value (← Instr.buildSlice t len vparts)) : Sem Next).run P w) = .ok (.value (.slice (some ⟨w.heap.size, 0, none⟩) len len)) (w.alloc (.cells arr' e)) := by
    have hle' : ¬ len * ε.size > 2 ^ 24 := by omega
    by_cases h0 : len * ε.size = 0
    · have hz0 : zc = #[] := if_pos h0
      rw [hz0] at a1
      simp only [Instr.buildSlice, Sem.run_bind, h1, Result.andThen_ok, hte.sizeOf, if_neg hle', if_pos h0, Sem.run_pure, a1, newRow, run_newObj]
      rfl
    · have hz0 : zc = z.cells := if_neg h0
      rw [hz0] at a1
      simp only [Instr.buildSlice, Sem.run_bind, h1, Result.andThen_ok, hte.sizeOf, if_neg hle', if_neg h0, hz, Sem.run_pure, a1, newRow, run_newObj]
      rfl
  have hcell : ∀ (i : Nat) (row : List V) (j : Nat) (x : V), (rowsV ε.size len cs)[i]? = some row → row[j]? = some x → ∃ v, arr'[i * ε.size + j]? = some v ∧ RepV (Avoid F h ids) ids w x v ∧ x.Below nx := by
    intro i row j x hi hj
    have hk := (hrow i row hi).2 j x hj
    have hlt := (List.getElem?_eq_some_iff.1 hk).1
    exact ⟨arr'[i * ε.size + j]'(by rw [a2.1]; exact hlt), by simp [a2.1, hlt], a2.2 _ x _ hk (by simp [a2.1, hlt]), hbc x (List.mem_of_getElem? hk)⟩
  split at hs
  · next ds hds =>
    simp only [Option.some.injEq, Prod.mk.injEq] at hs
    obtain ⟨rfl, rfl⟩ := hs
    obtain ⟨d1, d2⟩ := dsOf_map hds
    rw [rowsV_length] at d1
    have hc := Chg.alloc0 hh (.cells arr' e)
    refine OpOk.made (hc.trans (Chg.skip hc.heap (Nm.le_add nx nm))) hrun ?_ (.lst _ _ _)
    refine .lst _ _ _ _ ?_ (fun _ => ⟨some ⟨w.heap.size, 0, none⟩, by rw [d1]⟩)
    by_cases h0 : len = 0
    · subst h0
      have : ds = [] := List.length_eq_zero_iff.1 d1
      subst this
      exact .emp _ _ _
    have hrowOf : ∀ (i : Nat) (d : List D), ds[i]? = some d → ∃ row, (rowsV ε.size len cs)[i]? = some row ∧ toDs row = some d := by
      intro i d hi
      have hil : i < (rowsV ε.size len cs).length := by rw [rowsV_length, ← d1]; exact (List.getElem?_eq_some_iff.1 hi).1
      exact ⟨(rowsV ε.size len cs)[i], by simp [hil], d2 i _ d (by simp [hil]) hi⟩
    have hD : ∀ (i : Nat) (d : List D) (j : Nat) (x : D), ds[i]? = some d → d[j]? = some x → ∃ v, arr'[i * ε.size + j]? = some v ∧ RepD (Avoid F h ids) (w.alloc (.cells arr' e)) x v := by
      intro i d j x hi hj
      obtain ⟨row, hrw, htd⟩ := hrowOf i d hi
      obtain ⟨t1, _, t3⟩ := toDs_map htd
      have hjl : j < row.length := by rw [← t1]; exact (List.getElem?_eq_some_iff.1 hj).1
      obtain ⟨v, hv, hrep, hb⟩ := hcell i row j row[j] hrw (by simp [hjl])
      exact ⟨v, hv, toD_rep (t3 j _ x (by simp [hjl]) hj) (hc.rep hrep hb)⟩
    have hbase : RepD (Avoid F h ids) (w.alloc (.cells arr' e)) (.lst ε.size ds) (.slice (some ⟨w.heap.size, 0, none⟩) ds.length len) := by
      refine .lst ε.size ds w.heap.size 0 len (fun i j => (arr'[i * ε.size + j]?).getD default) (by omega) (by simp) (fun x => ?_) (fun d hd => ?_) (fun i d j x hi hj => ?_) (fun i d j x hi hj => ?_)
      · rcases x with x | x
        · exact absurd (hh.fsz _ x) (Nat.lt_irrefl _)
        · exact absurd (hh.liveLt x) (Nat.lt_irrefl _)
      · obtain ⟨i, hi⟩ := List.getElem?_of_mem hd
        obtain ⟨row, hrw, htd⟩ := hrowOf i d hi
        rw [(toDs_map htd).1]; exact (hrow i row hrw).1
      · obtain ⟨v, hv, _⟩ := hD i d j x hi hj
        rw [cell_of (alloc_new _ _), Nat.zero_add, hv]; rfl
      · obtain ⟨v, hv, hr⟩ := hD i d j x hi hj
        rw [hv]; exact hr
    rwa [d1] at hbase
  · simp only [Option.some.injEq, Prod.mk.injEq] at hs
    obtain ⟨rfl, rfl⟩ := hs
    have hc := Chg.newRows hh hn e ε.size (rowsV ε.size len cs) arr' (by rw [rowsV_length, a2.1, hcl]; exact Nat.le_refl _)
      (fun row hr => by obtain ⟨i, hi⟩ := List.getElem?_of_mem hr; exact (hrow i row hi).1)
      (fun row hr x hx => by
        obtain ⟨i, hi⟩ := List.getElem?_of_mem hr
        obtain ⟨j, hj⟩ := List.getElem?_of_mem hx
        obtain ⟨_, _, _, hb⟩ := hcell i row j x hi hj
        exact hb)
      (fun i row j x hi hj => by obtain ⟨v, hv, hr, _⟩ := hcell i row j x hi hj; exact ⟨v, hv, hr⟩)
    refine OpOk.made hc hrun ?_ (.sl _ _ _ _ (.inr rfl))
    refine .sl nm ε.size 0 len len _ (Nat.le_refl _) fun _ => ⟨arr', e, ?_, ?_, ?_⟩
    · rw [upd_same]; exact alloc_new _ _
    · rw [upd_same]; simp
    · rw [upd_same, a2.1, hcl]; simp

end
end Go.Proofs.Ytmihhkcbbdpnaaa.Abs
