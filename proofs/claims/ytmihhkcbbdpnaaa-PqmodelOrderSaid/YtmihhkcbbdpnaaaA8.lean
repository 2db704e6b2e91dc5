/- The abstract machine, part 8: append. -/
import Derived.Test.YtmihhkcbbdpnaaaA7
namespace Go.Proofs.Ytmihhkcbbdpnaaa.Abs
section
variable {P : Program} {tab : Tab}

/-- an array whose cells are the rows' -/
structure StandsR (A : Nat → Prop) (ids : Nat → Nat × Nat) (w : World) (sz : Nat) (rows : List (List V)) (arr : Array Value) : Prop where
  wid : ∀ row ∈ rows, row.length = sz
  len : arr.size = rows.length * sz
  rep : ∀ (i : Nat) (row : List V) (j : Nat) (x : V), rows[i]? = some row → row[j]? = some x → ∃ v, arr[i * sz + j]? = some v ∧ RepV A ids w x v

theorem StandsR.append {A : Nat → Prop} {ids : Nat → Nat × Nat} {w : World} {sz : Nat} {r1 r2 : List (List V)} {a1 a2 : Array Value} (h1 : StandsR A ids w sz r1 a1) (h2 : StandsR A ids w sz r2 a2) : StandsR A ids w sz (r1 ++ r2) (a1 ++ a2) where
  wid := fun row hr => (List.mem_append.1 hr).elim (h1.wid row) (h2.wid row)
  len := by simp [h1.len, h2.len, Nat.add_mul]
  rep := fun i row j x hi hj => by
    by_cases hl : i < r1.length
    · rw [List.getElem?_append_left hl] at hi
      obtain ⟨v, hv, hr⟩ := h1.rep i row j x hi hj
      have := (Array.getElem?_eq_some_iff.1 hv).1
      exact ⟨v, by rw [Array.getElem?_append_left this]; exact hv, hr⟩
    · rw [List.getElem?_append_right (by omega)] at hi
      obtain ⟨v, hv, hr⟩ := h2.rep _ row j x hi hj
      refine ⟨v, ?_, hr⟩
      have e : i * sz + j = a1.size + ((i - r1.length) * sz + j) := by
        rw [h1.len]
        have : i * sz = r1.length * sz + (i - r1.length) * sz := by rw [← Nat.add_mul]; congr 1; omega
        omega
      rw [e, Array.getElem?_append_right (by omega)]
      rw [Nat.add_sub_cancel_left]; exact hv

theorem StandsR.chg {F : Nat → Prop} {ids ids' : Nat → Nat × Nat} {w w' : World} {h h' : Hp} {nx nx' : Nm} {sz : Nat} {rows : List (List V)} {arr : Array Value} (c : Chg F ids w h nx ids' w' h' nx') (hs : StandsR (Avoid F h ids) ids w sz rows arr)
    (hb : ∀ row ∈ rows, ∀ x ∈ row, x.Below nx) : StandsR (Avoid F h' ids') ids' w' sz rows arr :=
  ⟨hs.wid, hs.len, fun i row j x hi hj => by
      obtain ⟨v, hv, hr⟩ := hs.rep i row j x hi hj
      exact ⟨v, hv, c.rep hr (hb row (List.mem_of_getElem? hi) x (List.mem_of_getElem? hj))⟩⟩

/-- rows of a world's memory, read -/
theorem readRows (P : Program) {A : Nat → Prop} {ids : Nat → Nat × Nat} {w : World} {sz b o : Nat} {rows : List (List V)} (hw : ∀ row ∈ rows, row.length = sz)
    (hr : ∀ (i : Nat) (row : List V) (j : Nat) (x : V), rows[i]? = some row → row[j]? = some x → ∃ v, w.cell? ⟨b, o + (i * sz + j), none⟩ = some v ∧ RepV A ids w x v) :
    ∃ arr, (loadCells ⟨b, o, none⟩ (rows.length * sz)).run P w = .ok arr w ∧ StandsR A ids w sz rows arr := by
  let c : Nat → Value := fun k => (w.cell? ⟨b, o + k, none⟩).getD default
  have hc : ∀ k, k < rows.length * sz → w.cell? ⟨b, o + k, none⟩ = some (c k) := by
    intro k hk
    have hsz : 0 < sz := Nat.pos_of_ne_zero fun e => by subst e; simp at hk
    have hi : k / sz < rows.length := (Nat.div_lt_iff_lt_mul hsz).2 hk
    have hj : k % sz < (rows[k / sz]).length := by rw [hw _ (List.getElem_mem hi)]; exact Nat.mod_lt _ hsz
    obtain ⟨v, hv, _⟩ := hr (k / sz) rows[k / sz] (k % sz) (rows[k / sz][k % sz]) (by simp [hi]) (by simp [hj])
    rw [show k / sz * sz + k % sz = k by rw [Nat.mul_comm]; exact Nat.div_add_mod k sz] at hv
    simp [c, hv]
  refine ⟨_, loadCells_run P w b o _ c hc, hw, by simp, fun i row j x hi hj => ?_⟩
  obtain ⟨v, hv, hrep⟩ := hr i row j x hi hj
  have hlt : i * sz + j < rows.length * sz := row_in (List.getElem?_eq_some_iff.1 hi).1 (by rw [← hw row (List.mem_of_getElem? hi)]; exact (List.getElem?_eq_some_iff.1 hj).1)
  refine ⟨v, ?_, hrep⟩
  have : c (i * sz + j) = v := by simp [c, hv]
  simp [hlt, this]

/-- rows that can be read off a slice -/
def Reads (P : Program) (A : Nat → Prop) (ids : Nat → Nat × Nat) (w : World) (sz : Nat) (rows : List (List V)) (v : Value) : Prop :=
  ∃ a c, v = .slice a rows.length c ∧ rows.length ≤ c ∧ ∃ arr, (Builtin.firstCells sz rows.length v).run P w = .ok arr w ∧ StandsR A ids w sz rows arr
theorem Reads.nil (P : Program) {A : Nat → Prop} {ids : Nat → Nat × Nat} {w : World} {sz : Nat} (a : Option Addr) (c : Nat) : Reads P A ids w sz [] (.slice a 0 c) :=
  ⟨a, c, rfl, Nat.zero_le _, #[], by cases a <;> simp [Builtin.firstCells, loadCells, loadCellsFrom], ⟨by simp, by simp, by simp⟩⟩
theorem RepR.reads {A : Nat → Prop} {ids : Nat → Nat × Nat} {w : World} {p : Nat × Nat} {sz off len cap : Nat} {r : List (List V)} {ad : Option Addr} (h : RepR A ids w p sz r) (hl : len ≤ cap) (hr : off + len ≤ r.length)
    (ha : cap ≠ 0 → ad = some ⟨p.1, p.2 + off * sz, none⟩) : Reads P A ids w sz ((r.drop off).take len) (.slice ad len cap) := by
  have hl' : ((r.drop off).take len).length = len := by simp; omega
  by_cases h0 : len = 0
  · subst h0; simpa using Reads.nil P ad cap
  · obtain rfl := ha (by omega)
    obtain ⟨arr', T', b1, b2, b3, b4⟩ := h
    have hw : ∀ row ∈ (r.drop off).take len, row.length = sz := fun row hr => b3 row (List.mem_of_mem_drop (List.mem_of_mem_take hr))
    obtain ⟨arr2, p1, p2⟩ := readRows P (A := A) (ids := ids) (w := w) (b := p.1) (o := p.2 + off * sz) hw (fun i row j x hi hj => by
      have hlt : i < len := by have := (List.getElem?_eq_some_iff.1 hi).1; omega
      rw [List.getElem?_take_of_lt hlt, List.getElem?_drop] at hi
      obtain ⟨v, hv, hrep⟩ := b4 (off + i) row j x hi hj
      refine ⟨v, ?_, hrep⟩
      rw [cell_of b1, ← hv]; congr 1; rw [Nat.add_mul]; omega)
    refine ⟨_, cap, by rw [hl'], by rw [hl']; exact hl, arr2, ?_, p2⟩
    simpa [Builtin.firstCells] using p1
theorem RepD.reads {A : Nat → Prop} {ids : Nat → Nat × Nat} {w : World} {sz : Nat} {rows : List (List D)} {v : Value} (h : RepD A w (.lst sz rows) v) : Reads P A ids w sz (toVs rows) v := by
  cases h with
  | emp _ a cap => exact Reads.nil P a cap
  | lst _ _ b o cap cell hcap hb hA hwd hcell hdd =>
    have hw : ∀ row ∈ toVs rows, row.length = sz := fun row hr => by obtain ⟨rd, hrd, rfl⟩ := List.mem_map.1 hr; simpa using hwd rd hrd
    obtain ⟨arr2, p1, p2⟩ := readRows P (A := A) (ids := ids) (w := w) (b := b) (o := o) hw (fun i row j x hi hj => by
      rw [toVs_get, Option.map_eq_some_iff] at hi
      obtain ⟨rd, hi, rfl⟩ := hi
      rw [List.getElem?_map, Option.map_eq_some_iff] at hj
      obtain ⟨d, hj, rfl⟩ := hj
      exact ⟨_, hcell i rd j d hi hj, (hdd i rd j d hi hj).toV⟩)
    refine ⟨some ⟨b, o, none⟩, cap, by simp [toVs], by simpa [toVs] using hcap, arr2, ?_, p2⟩
    simpa [Builtin.firstCells, toVs] using p1

theorem rowsFrom_sound {F : Nat → Prop} {ids : Nat → Nat × Nat} {w : World} {h : Hp} {nx : Nm} {sz : Nat} (hh : RepH F ids w h nx) {x : V} {vx : Value} {src : List (List V)} (hx : RepV (Avoid F h ids) ids w x vx) (hs : rowsFrom h x = some src)
    (hw : ∀ row ∈ src, row.length = sz) : Reads P (Avoid F h ids) ids w sz src vx ∧ (∀ row ∈ src, ∀ x ∈ row, x.Below nx) := by
  unfold rowsFrom at hs
  split at hs
  · next n sz' off len =>
    rw [Option.bind_eq_some_iff] at hs
    obtain ⟨r, hr, hs⟩ := hs
    have hn := rowsOf_some hr
    split at hs
    case isFalse => cases hs
    next hlen =>
    cases hs
    refine ⟨?_, fun row hrow x hx => hh.below n _ hn row (List.mem_of_mem_drop (List.mem_of_mem_take hrow)) x hx⟩
    cases hx with
    | sl _ _ _ _ cap ad hl hc =>
      have hb := hh.blk n _ hn
      by_cases h0 : len = 0
      · subst h0; simpa using Reads.nil P ad cap
      · have hszs : sz' = sz := by
          have h0' : off < r.length := by omega
          have := hw r[off] (by
            have : ((r.drop off).take len)[0]? = some r[off] := by rw [List.getElem?_take_of_lt (by omega), List.getElem?_drop]; simp [h0']
            exact List.mem_of_getElem? this)
          obtain ⟨_, _, _, _, b3, _⟩ := hb
          rw [← this]; exact (b3 _ (List.getElem_mem h0')).symm
        subst hszs
        exact RepR.reads hb hl hlen fun h => by obtain ⟨_, _, _, h2, _⟩ := hc h; exact h2
  · cases hs
theorem toVs_len (r : List (List D)) : (toVs r).length = r.length := by simp [toVs]
theorem toVs_cut (r : List (List D)) (a b : Nat) : toVs ((r.drop a).take b) = ((toVs r).drop a).take b := by simp [toVs, List.map_take, List.map_drop]
theorem toVs_app (r s : List (List D)) : toVs (r ++ s) = toVs r ++ toVs s := by simp [toVs]
theorem toVs_nil {r : List (List D)} : toVs r = [] ↔ r = [] := by simp [toVs]

theorem dRows_sound {F : Nat → Prop} {ids : Nat → Nat × Nat} {w : World} {h : Hp} {nx : Nm} {sz : Nat} (hh : RepH F ids w h nx) {x : V} {vx : Value} {src : List (List D)} (hx : RepV (Avoid F h ids) ids w x vx) (hs : dRows h sz x = some src) :
    Reads P (Avoid F h ids) ids w sz (toVs src) vx := by
  unfold dRows at hs
  split at hs
  · next sz' rows cl =>
    split at hs
    case isFalse => cases hs
    next e =>
    cases hs; subst e
    cases hx with | lst _ _ _ _ hd _ => exact hd.reads
  · cases hs; cases hx; exact Reads.nil P none 0
  · next n sz' len =>
    split at hs
    case isFalse => cases hs
    next e =>
    subst e
    rw [Option.bind_eq_some_iff] at hs
    obtain ⟨r, hr, hs⟩ := hs
    split at hs
    case isFalse => cases hs
    next e =>
    cases hs
    have hn := datOf_some hr
    cases hx with
    | ac0 =>
      have : src = [] := List.length_eq_zero_iff.1 e.symm
      subst this
      exact Reads.nil P _ 0
    | ac1 _ _ _ _ h0 hx =>
      cases hx with
      | sl _ _ _ _ cap ad hl hc =>
        have hne : src ≠ [] := by rintro rfl; exact h0 e
        have := RepR.reads (P := P) ((hh.blk n _ hn).1 hne) (off := 0) hl (by rw [toVs_len]; omega) fun h => by obtain ⟨_, _, _, h2, _⟩ := hc h; exact h2
        rwa [List.drop_zero, List.take_of_length_le (by rw [toVs_len]; omega)] at this
  · next n sz' off len =>
    split at hs
    case isFalse => cases hs
    next e =>
    subst e
    rw [Option.bind_eq_some_iff] at hs
    obtain ⟨r, hr, hs⟩ := hs
    split at hs
    case isFalse => cases hs
    next e =>
    cases hs
    have hn := datOf_some hr
    cases hx with
    | sl _ _ _ _ cap ad hl hc =>
      by_cases hne : r = []
      · subst hne
        obtain rfl : len = 0 := by simp at e; omega
        simpa [toVs] using Reads.nil P ad cap
      · have := RepR.reads (P := P) ((hh.blk n _ hn).1 hne) (off := off) hl (by rw [toVs_len]; omega) fun h => by obtain ⟨_, _, _, h2, _⟩ := hc h; exact h2
        rwa [← toVs_cut] at this
  · cases hs

theorem growBy_le (n : Nat) : ∀ (r c : Nat), c < n → Builtin.growBy n r c ≤ 2 * n + 192 := by
  intro r
  induction r with
  | zero => intro c h; simp [Builtin.growBy]; omega
  | succ r ih =>
    intro c h
    rw [Builtin.growBy]
    split
    · omega
    · by_cases h2 : c + (c + 768) / 4 < n
      · exact ih _ h2
      · cases r with
        | zero => simp [Builtin.growBy]; omega
        | succ r => rw [Builtin.growBy, if_pos (by omega)]; omega
theorem nextslicecap_le {need cap : Nat} (h : cap < need) : Builtin.nextslicecap need cap ≤ 2 * need + 192 := by
  unfold Builtin.nextslicecap
  split
  · omega
  · split
    · omega
    · exact growBy_le _ _ _ h

theorem Chg.drew {F : Nat → Prop} {ids : Nat → Nat × Nat} {w : World} {h : Hp} {nx : Nm} (hh : RepH F ids w h nx) : Chg F ids w h nx ids w.drew h nx := by
  have hg := Goes.drew (Avoid F h ids) w
  refine ⟨⟨hh.lt, fun n b hb => (hh.blk n b hb).mono hg (fun _ _ x => x) (fun _ _ => rfl) (hh.below n b hb) (fun _ => rfl), hh.below, hh.inj, hh.out, hh.fsz⟩, Goes.drew _ _, fun _ _ x => x, fun _ _ => rfl, Nm.le_refl _⟩

theorem upd_comm {α : Type} (f : Nat → α) {n m : Nat} (h : n ≠ m) (x y : α) : upd (upd f n x) m y = upd (upd f m y) n x := by
  funext k; unfold upd; split <;> split <;> first | rfl | omega

theorem StandsR.oneCells {A : Nat → Prop} {ids : Nat → Nat × Nat} {w : World} {sz : Nat} {rows : List (List V)} {arr : Array Value} (h : StandsR A ids w sz rows arr) (hl : ∀ row ∈ rows, row.all V.leaf = true) : ∀ v ∈ arr.toList, v.oneCell' = true := by
  intro v hv
  obtain ⟨k, hk, rfl⟩ := List.getElem_of_mem hv
  simp only [Array.length_toList, h.len] at hk
  have hsz : 0 < sz := Nat.pos_of_ne_zero fun e => by subst e; simp at hk
  have hi : k / sz < rows.length := (Nat.div_lt_iff_lt_mul hsz).2 hk
  have hj : k % sz < (rows[k / sz]).length := by rw [h.wid _ (List.getElem_mem hi)]; exact Nat.mod_lt _ hsz
  obtain ⟨v, hv, hr⟩ := h.rep (k / sz) rows[k / sz] (k % sz) (rows[k / sz][k % sz]) (by simp [hi]) (by simp [hj])
  rw [show k / sz * sz + k % sz = k by rw [Nat.mul_comm]; exact Nat.div_add_mod k sz] at hv
  have := hr.leaf1 (List.all_eq_true.1 (hl _ (List.getElem_mem hi)) _ (List.getElem_mem hj))
  rw [Array.getElem?_eq_some_iff] at hv
  obtain ⟨_, hv⟩ := hv
  simp only [Array.getElem_toList]
  rw [hv]; exact this
end
end Go.Proofs.Ytmihhkcbbdpnaaa.Abs
