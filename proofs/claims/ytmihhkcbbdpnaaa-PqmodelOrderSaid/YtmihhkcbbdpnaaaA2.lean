/- The abstract machine, part 2: memory: what reading, writing and making cells does to a world, and to what it represents. -/
import Derived.Test.YtmihhkcbbdpnaaaA1
namespace Go.Proofs.Ytmihhkcbbdpnaaa.Abs

theorem add_none (b o i : Nat) : (⟨b, o, none⟩ : Addr).add i = ⟨b, o + i, none⟩ := by
  unfold Addr.add; split
  · next h => subst h; rfl
  · rfl

/-! ### reading -/
theorem loadCellsFrom_run (P : Program) (w : World) (b o : Nat) (c : Nat → Value) : ∀ (n i : Nat) (acc : Array Value),
    (∀ k, k < n → w.cell? ⟨b, o + (i + k), none⟩ = some (c (i + k))) →
    (loadCellsFrom ⟨b, o, none⟩ i n acc).run P w = .ok (acc ++ ((List.range n).map fun k => c (i + k)).toArray) w := by
  intro n
  induction n with
  | zero => intro i acc _; simp [loadCellsFrom]
  | succ n ih =>
    intro i acc h
    have h0 := h 0 (by omega)
    simp only [Nat.add_zero] at h0
    simp only [loadCellsFrom, Sem.run_bind, run_load, add_none, h0, Result.andThen_ok]
    rw [ih (i + 1) _ (fun k hk => by have := h (k + 1) (by omega); rw [show i + 1 + k = i + (k + 1) by omega]; exact this)]
    simp only [Result.ok.injEq, and_true]
    apply Array.toList_inj.1
    simp only [Array.toList_append, Array.toList_push, List.range_succ_eq_map, List.map_cons, List.map_map, List.append_assoc]
    simp [Function.comp_def, Nat.add_assoc, Nat.add_comm 1]

theorem loadCells_run (P : Program) (w : World) (b o n : Nat) (c : Nat → Value) (h : ∀ k, k < n → w.cell? ⟨b, o + k, none⟩ = some (c k)) :
    (loadCells ⟨b, o, none⟩ n).run P w = .ok ((List.range n).map c).toArray w := by
  unfold loadCells
  rw [loadCellsFrom_run P w b o c n 0 #[] (fun k hk => by simpa using h k hk)]
  simp

/-! ### writing -/
def splice (arr : Array Value) (off : Nat) : List Value → Array Value
  | [] => arr
  | v :: vs => splice (arr.setIfInBounds off v) (off + 1) vs

theorem splice_size (vs : List Value) : ∀ (arr : Array Value) (off : Nat), (splice arr off vs).size = arr.size := by
  induction vs with
  | nil => intro arr off; rfl
  | cons v vs ih => intro arr off; simp [splice, ih]

theorem splice_get (vs : List Value) : ∀ (arr : Array Value) (off k : Nat), off + vs.length ≤ arr.size →
    (splice arr off vs)[k]? = if off ≤ k ∧ k < off + vs.length then vs[k - off]? else arr[k]? := by
  induction vs with
  | nil => intro arr off k _; simp only [splice, List.length_nil]; rw [if_neg (by omega)]
  | cons v vs ih =>
    intro arr off k h
    simp only [List.length_cons] at h
    rw [splice, ih _ _ _ (by simp; omega)]
    by_cases h1 : off + 1 ≤ k ∧ k < off + 1 + vs.length
    · rw [if_pos h1, if_pos (by simp; omega)]
      obtain ⟨m, hm⟩ : ∃ m, k - off = m + 1 := ⟨k - off - 1, by omega⟩
      rw [hm, show k - (off + 1) = m by omega, List.getElem?_cons_succ]
    · rw [if_neg h1]
      by_cases h2 : k = off
      · subst h2
        rw [if_pos (by simp), Nat.sub_self, List.getElem?_cons_zero, Array.getElem?_setIfInBounds, if_pos rfl, if_pos (by omega)]
      · rw [if_neg (by simp; omega), Array.getElem?_setIfInBounds, if_neg (fun e => h2 e.symm)]

def World.put (w : World) (b : Nat) (o : Obj) : World := { w with heap := w.heap.setIfInBounds b o }
theorem put_size (w : World) (b : Nat) (o : Obj) : (World.put w b o).heap.size = w.heap.size := by simp [World.put]
theorem put_same (w : World) (b : Nat) (o : Obj) (h : b < w.heap.size) : (World.put w b o).heap[b]? = some o := by simp [World.put, h]
theorem put_other (w : World) (b c : Nat) (o : Obj) (h : c ≠ b) : (World.put w b o).heap[c]? = w.heap[c]? := by simp [World.put, Ne.symm h]

theorem cell_of {w : World} {b : Nat} {arr : Array Value} {T : TypeId} {fz : Nat × Nat} (h : w.heap[b]? = some (.cells arr T fz)) (o : Nat) : w.cell? ⟨b, o, none⟩ = arr[o]? := by
  simp [World.cell?, h]

theorem setCell_put {w : World} {b : Nat} {arr : Array Value} {T : TypeId} {fz : Nat × Nat} (h : w.heap[b]? = some (.cells arr T fz)) (o : Nat) (v : Value) :
    w.setCell ⟨b, o, none⟩ v = World.put w b (.cells (arr.setIfInBounds o v) T fz) := by
  unfold World.setCell World.put
  congr 1
  apply Array.ext_getElem?
  intro i
  rw [Array.getElem?_modify, Array.getElem?_setIfInBounds]
  have hb := (Array.getElem?_eq_some_iff.1 h).1
  by_cases hi : b = i
  · subst hi; rw [h]; simp [hb]
  · simp [hi]

theorem put_put (w : World) (b : Nat) (o o' : Obj) : World.put (World.put w b o) b o' = World.put w b o' := by
  simp only [World.put, Array.setIfInBounds_setIfInBounds]

theorem storeCells_run (P : Program) (b : Nat) (T : TypeId) (vs : List Value) (hv : ∀ v ∈ vs, v.oneCell' = true) : ∀ (w : World) (off i : Nat) (arr : Array Value),
    w.heap[b]? = some (.cells arr T (0, 0)) → off + i + vs.length ≤ arr.size →
    (storeCells ⟨b, off, none⟩ vs i).run P w = .ok () (if vs = [] then w else World.put w b (.cells (splice arr (off + i) vs) T (0, 0))) := by
  induction vs with
  | nil => intro w off i arr _ _; simp [storeCells]
  | cons v vs ih =>
    intro w off i arr h hs
    simp only [List.length_cons] at hs
    have hc : w.cell? ⟨b, off + i, none⟩ = some (arr[off + i]'(by omega)) := by rw [cell_of h]; simp
    have hf : w.frozen? ⟨b, off + i, none⟩ = false := by simp [World.frozen?, h]
    simp only [storeCells, Sem.run_bind, add_none, run_store P w _ v .plain (hv v (by simp)), hc, hf, Bool.false_eq_true, if_false, Result.andThen_ok]
    rw [setCell_put h]
    have hb := (Array.getElem?_eq_some_iff.1 h).1
    rw [ih (fun v hv' => hv v (by simp [hv'])) _ off (i + 1) (arr.setIfInBounds (off + i) v) (put_same _ _ _ hb) (by simp; omega)]
    simp only [Result.ok.injEq, true_and, reduceCtorEq, if_false]
    split
    · next e => subst e; rfl
    · rw [put_put]; rfl

/-! ### a change of the world and of the state -/
structure Chg (F : Nat → Prop) (ids : Nat → Nat × Nat) (w : World) (h : Hp) (nx : Nm) (ids' : Nat → Nat × Nat) (w' : World) (h' : Hp) (nx' : Nm) : Prop where
  heap : RepH F ids' w' h' nx'
  goes : Goes (Live h ids) w w'
  live : ∀ b, b < w.heap.size → Live h' ids' b → Live h ids b
  ids : ∀ n, nx n → ids' n = ids n
  nx : nx.le nx'

theorem Chg.avoid {F : Nat → Prop} {ids ids' : Nat → Nat × Nat} {w w' : World} {h h' : Hp} {nx nx' : Nm} (c : Chg F ids w h nx ids' w' h' nx') (b : Nat) (hb : b < w.heap.size) (x : Avoid F h' ids' b) : Avoid F h ids b := by
  rcases x with x | x
  · exact .inl x
  · exact .inr (c.live b hb x)
theorem Chg.goes' {F : Nat → Prop} {ids ids' : Nat → Nat × Nat} {w w' : World} {h h' : Hp} {nx nx' : Nm} (c : Chg F ids w h nx ids' w' h' nx') : Goes (Avoid F h ids) w w' :=
  c.goes.weaken fun _ _ x => .inr x
theorem Chg.rep {F : Nat → Prop} {ids ids' : Nat → Nat × Nat} {w w' : World} {h h' : Hp} {nx nx' : Nm} (c : Chg F ids w h nx ids' w' h' nx') {x : V} {v : Value}
    (hr : RepV (Avoid F h ids) ids w x v) (hb : x.Below nx) : RepV (Avoid F h' ids') ids' w' x v :=
  hr.mono c.goes' c.avoid c.ids hb

theorem Chg.refl {F : Nat → Prop} {ids : Nat → Nat × Nat} {w : World} {h : Hp} {nx : Nm} (hh : RepH F ids w h nx) : Chg F ids w h nx ids w h nx :=
  ⟨hh, Goes.refl _ _, fun _ _ x => x, fun _ _ => rfl, Nm.le_refl _⟩

theorem Chg.trans {F : Nat → Prop} {ids ids1 ids2 : Nat → Nat × Nat} {w w1 w2 : World} {h h1 h2 : Hp} {nx nx1 nx2 : Nm} (c : Chg F ids w h nx ids1 w1 h1 nx1) (c' : Chg F ids1 w1 h1 nx1 ids2 w2 h2 nx2) :
    Chg F ids w h nx ids2 w2 h2 nx2 :=
  ⟨c'.heap, c.goes.trans c'.goes c.live, fun b hb x => c.live b hb (c'.live b (Nat.lt_of_lt_of_le hb c.goes.size) x), fun n hn => (c'.ids n (c.nx n hn)).trans (c.ids n hn), Nm.le_trans c.nx c'.nx⟩

theorem RepH.liveLt {F : Nat → Prop} {ids : Nat → Nat × Nat} {w : World} {h : Hp} {nx : Nm} (hh : RepH F ids w h nx) {b : Nat} (x : Live h ids b) : b < w.heap.size := by
  obtain ⟨n, y, h1, hr, rfl⟩ := x
  exact (hh.blk n y h1).lt hr
theorem RepH.nx {F : Nat → Prop} {ids : Nat → Nat × Nat} {w : World} {h : Hp} {nx nx' : Nm} (hh : RepH F ids w h nx) (hn : nx.le nx') : RepH F ids w h nx' :=
  { hh with lt := fun n b hb => hn n (hh.lt n b hb), below := fun n b hb => (hh.below n b hb).mono hn }
theorem Chg.skip {F : Nat → Prop} {ids : Nat → Nat × Nat} {w : World} {h : Hp} {nx nx' : Nm} (hh : RepH F ids w h nx) (hn : nx.le nx') : Chg F ids w h nx ids w h nx' :=
  ⟨hh.nx hn, Goes.refl _ _, fun _ _ x => x, fun _ _ => rfl, hn⟩

/-- a draw alone -/
theorem Goes.drew (A : Nat → Prop) (w : World) : Goes A w w.drew := ⟨Nat.le_refl _, fun _ _ _ => rfl, fun _ arr _ _ h => ⟨arr, h, rfl⟩, fun _ es k h => ⟨es, k, h⟩, ⟨rfl, rfl⟩, fun _ => rfl⟩
theorem heap_alloc (w : World) (o : Obj) : (w.alloc o).heap = w.heap.push o := rfl

/-- nothing of it is frozen -/
def thaw (o : Obj) : Prop := ∀ arr T fz, o = .cells arr T fz → fz = (0, 0)
theorem frozen_of {w : World} {a : Addr} {arr : Array Value} {T : TypeId} (h : w.heap[a.block]? = some (.cells arr T (0, 0))) : w.frozen? a = false := by
  simp only [World.frozen?, h]
  simp
theorem frozen_same {w w' : World} {a : Addr} (h : w'.heap[a.block]? = w.heap[a.block]?) : w'.frozen? a = w.frozen? a := by
  simp only [World.frozen?, h]
theorem frozen_cells {w w' : World} {a : Addr} {arr arr' : Array Value} {T T' : TypeId} {fz : Nat × Nat} (h : w.heap[a.block]? = some (.cells arr T fz)) (h' : w'.heap[a.block]? = some (.cells arr' T' fz)) : w'.frozen? a = w.frozen? a := by
  simp only [World.frozen?, h, h']
theorem frozen_map {w w' : World} {a : Addr} {es es' : Array MapEntry} {k k' : Nat} (h : w.heap[a.block]? = some (.map es k)) (h' : w'.heap[a.block]? = some (.map es' k')) : w'.frozen? a = w.frozen? a := by
  simp only [World.frozen?, h, h']
theorem Goes.alloc (A : Nat → Prop) (w : World) (o : Obj) (ho : thaw o := by intro _ _ _ h; cases h; rfl) : Goes A w (w.alloc o) where
  size := by simp
  same := fun b hb _ => by rw [heap_alloc, Array.getElem?_push, if_neg (by omega)]
  shape := fun b arr T fz h => ⟨arr, by
    have hb := (Array.getElem?_eq_some_iff.1 h).1
    rw [heap_alloc, Array.getElem?_push, if_neg (by omega)]; exact h, rfl⟩
  mapx := fun b es k h => ⟨es, k, by
    have hb := (Array.getElem?_eq_some_iff.1 h).1
    rw [heap_alloc, Array.getElem?_push, if_neg (by omega)]; exact h⟩
  env := ⟨rfl, rfl⟩
  frz := fun a => by
    by_cases e : a.block = w.heap.size
    · have e1 : w.heap[a.block]? = none := by rw [e]; simp
      have e2 : (w.alloc o).heap[a.block]? = some o := by rw [heap_alloc, Array.getElem?_push, if_pos e]
      cases o with
      | cells arr T fz => cases ho _ _ _ rfl; rw [frozen_of e2]; simp only [World.frozen?, e1]
      | _ => simp only [World.frozen?, e1, e2]
    · exact frozen_same (by rw [heap_alloc, Array.getElem?_push, if_neg e])
theorem alloc_new (w : World) (o : Obj) : (w.alloc o).heap[w.heap.size]? = some o := by rw [heap_alloc, Array.getElem?_push, if_pos rfl]

/-- a new name: for a new block, for a block that loses its name, for no block; the old names of Z are given up. What is named stays as it is, but for the blocks of Z -/
theorem Chg.name {F : Nat → Prop} {ids : Nat → Nat × Nat} {w w' : World} {h : Hp} {nx : Nm} {nm : Nat} (hh : RepH F ids w h nx) (hn : ¬ nx nm) (Z : Nat → Prop) [DecidablePred Z] (p : Nat × Nat) (b : B)
    (hg : Goes (fun c => ∃ n x, Z n ∧ h n = some x ∧ x.real = true ∧ (ids n).1 = c) w w') (hb : b.Below (nx.add nm)) (hp : b.real = true → (w.heap.size ≤ p.1 ∧ p.1 < w'.heap.size) ∨ ∃ n x, Z n ∧ h n = some x ∧ x.real = true ∧ (ids n).1 = p.1)
    (hr : ∀ (ids' : Nat → Nat × Nat) (A : Nat → Prop), (∀ n, nx n → ids' n = ids n) → (∀ c, c < w.heap.size → A c → Avoid F h ids c) → RepB A ids' w' p b) :
    Chg F ids w h nx (upd ids nm p) w' (upd (fun n => if Z n then none else h n) nm (some b)) (nx.add nm) := by
  have hids : ∀ n, nx n → upd ids nm p n = ids n := fun n hn' => upd_ne _ _ _ _ (Nm.ne hn hn')
  have hcase : ∀ m c, upd (fun n => if Z n then none else h n) nm (some b) m = some c → (m = nm ∧ c = b) ∨ (m ≠ nm ∧ ¬ Z m ∧ h m = some c) := by
    intro m c hc
    by_cases e : m = nm
    · subst e; rw [upd_same] at hc; cases hc; exact .inl ⟨rfl, rfl⟩
    · rw [upd_ne _ _ _ _ e] at hc
      split at hc
      · cases hc
      · next hz => exact .inr ⟨e, hz, hc⟩
  have hlive : ∀ c, c < w.heap.size → Live (upd (fun n => if Z n then none else h n) nm (some b)) (upd ids nm p) c → Live h ids c := by
    rintro c hc ⟨n, y, hy, hyr, rfl⟩
    rcases hcase n y hy with ⟨rfl, rfl⟩ | ⟨e, _, hy⟩
    · rw [upd_same] at hc ⊢
      rcases hp hyr with hp | ⟨n, x, _, hx, hxr, hxp⟩
      · omega
      · exact ⟨n, x, hx, hxr, hxp⟩
    · rw [upd_ne _ _ _ _ e]; exact ⟨n, y, hy, hyr, rfl⟩
  have hav : ∀ c, c < w.heap.size → Avoid F (upd (fun n => if Z n then none else h n) nm (some b)) (upd ids nm p) c → Avoid F h ids c := fun c hc x => x.imp id (hlive c hc)
  have hgl : Goes (Live h ids) w w' := hg.weaken fun c _ ⟨n, x, _, hx, hxr, hc⟩ => ⟨n, x, hx, hxr, hc⟩
  have hsame : ∀ m c, h m = some c → ¬ Z m → c.real = true → w'.heap[(ids m).1]? = w.heap[(ids m).1]? := by
    intro m c hc hz hcr
    refine hg.same _ ((hh.blk m c hc).lt hcr) ?_
    rintro ⟨n, x, hzn, hx, hxr, e⟩
    exact hz (hh.inj _ _ _ _ hx hc hxr hcr e ▸ hzn)
  refine ⟨⟨?_, ?_, ?_, ?_, ?_, fun c x => Nat.lt_of_lt_of_le (hh.fsz c x) hg.size⟩, hgl, hlive, hids, Nm.le_add _ _⟩
  · intro m c hc
    rcases hcase m c hc with ⟨rfl, rfl⟩ | ⟨e, _, hm⟩
    · exact .inr rfl
    · exact .inl (hh.lt m c hm)
  · intro m c hc
    rcases hcase m c hc with ⟨rfl, rfl⟩ | ⟨e, hz, hm⟩
    · rw [upd_same]; exact hr _ _ hids hav
    · rw [upd_ne _ _ _ _ e]
      exact (hh.blk m c hm).mono (hgl.weaken fun _ _ x => .inr x) hav hids (hh.below m c hm) (hsame m c hm hz)
  · intro m c hc
    rcases hcase m c hc with ⟨rfl, rfl⟩ | ⟨e, _, hm⟩
    · exact hb
    · exact (hh.below m c hm).mono (Nm.le_add _ _)
  · intro m k c d hc hd hcr hdr he
    rcases hcase m c hc with ⟨rfl, rfl⟩ | ⟨e, hz, hm⟩
    · rcases hcase k d hd with ⟨rfl, rfl⟩ | ⟨f, hz, hk⟩
      · rfl
      · rw [upd_same, upd_ne _ _ _ _ f] at he
        rcases hp hcr with hp | ⟨n, x, hzn, hx, hxr, hxp⟩
        · have := (hh.blk k d hk).lt hdr; omega
        · exact absurd (hh.inj n k _ _ hx hk hxr hdr (hxp.trans he) ▸ hzn) hz
    · rcases hcase k d hd with ⟨rfl, rfl⟩ | ⟨f, _, hk⟩
      · rw [upd_same, upd_ne _ _ _ _ e] at he
        rcases hp hdr with hp | ⟨n, x, hzn, hx, hxr, hxp⟩
        · have := (hh.blk m c hm).lt hcr; omega
        · exact absurd (hh.inj n m _ _ hx hm hxr hcr (hxp.trans he.symm) ▸ hzn) hz
      · rw [upd_ne _ _ _ _ e, upd_ne _ _ _ _ f] at he
        exact hh.inj m k c d hm hk hcr hdr he
  · intro m c hc hcr
    rcases hcase m c hc with ⟨rfl, rfl⟩ | ⟨e, _, hm⟩
    · rw [upd_same]
      rcases hp hcr with hp | ⟨n, x, _, hx, hxr, hxp⟩
      · intro hF; have := hh.fsz _ hF; omega
      · rw [← hxp]; exact hh.out n x hx hxr
    · rw [upd_ne _ _ _ _ e]; exact hh.out m c hm hcr

/-- a new block under a new name -/
theorem Chg.new {F : Nat → Prop} {ids : Nat → Nat × Nat} {w : World} {h : Hp} {nx : Nm} {nm : Nat} (hh : RepH F ids w h nx) (hn : ¬ nx nm) (o : Obj) (b : B)
    (hb : b.Below nx)
    (hr : ∀ (ids' : Nat → Nat × Nat) (A : Nat → Prop), (∀ n, nx n → ids' n = ids n) → (∀ c, c < w.heap.size → A c → Avoid F h ids c) → RepB A ids' (w.alloc o) (w.heap.size, 0) b) (ho : thaw o := by intro _ _ _ h; cases h; rfl) :
    Chg F ids w h nx (upd ids nm (w.heap.size, 0)) (w.alloc o) (upd h nm (some b)) (nx.add nm) := by
  have := Chg.name hh hn (fun _ => False) (w.heap.size, 0) b (Goes.alloc _ w o ho) (hb.mono (Nm.le_add _ _)) (fun _ => .inl ⟨Nat.le_refl _, by simp⟩) hr
  simpa using this

/-- a block with a name is written: new contents of the same length -/
theorem Chg.write {F : Nat → Prop} {ids : Nat → Nat × Nat} {w : World} {h : Hp} {nx : Nm} {n : Nat} (hh : RepH F ids w h nx) {b b' : B} (hb : h n = some b) (hbr : b.real = true) (o o' : Obj) (ho : w.heap[(ids n).1]? = some o)
    (hsh : ∀ (arr : Array Value) (T : TypeId) (fz : Nat × Nat), o = .cells arr T fz → ∃ arr' : Array Value, o' = .cells arr' T fz ∧ arr'.size = arr.size)
    (hmp : ∀ (es : Array MapEntry) (k : Nat), o = .map es k → ∃ es' k', o' = .map es' k')
    (hbel : b'.Below nx) (hr : ∀ A : Nat → Prop, (∀ c, c < w.heap.size → A c → Avoid F h ids c) → RepB A ids (World.put w (ids n).1 o') (ids n) b') :
    Chg F ids w h nx ids (World.put w (ids n).1 o') (upd h n (some b')) nx := by
  have hlt := (hh.blk n b hb).lt hbr
  have hgo : Goes (Live h ids) w (World.put w (ids n).1 o') := by
    refine ⟨Nat.le_of_eq (put_size _ _ _).symm, fun c _ hc => put_other _ _ _ _ fun e => hc ⟨n, b, hb, hbr, e.symm⟩, fun c arr T fz hc => ?_, fun c es k hc => ?_, ⟨rfl, rfl⟩, fun a => ?_⟩
    · by_cases e : c = (ids n).1
      · subst e
        rw [ho] at hc; cases hc
        obtain ⟨arr', h1, h2⟩ := hsh _ _ _ rfl
        exact ⟨arr', by rw [put_same _ _ _ hlt, h1], h2⟩
      · exact ⟨arr, by rw [put_other _ _ _ _ e]; exact hc, rfl⟩
    · by_cases e : c = (ids n).1
      · subst e
        rw [ho] at hc; cases hc
        obtain ⟨es', k', h1⟩ := hmp _ _ rfl
        exact ⟨es', k', by rw [put_same _ _ _ hlt, h1]⟩
      · exact ⟨es, k, by rw [put_other _ _ _ _ e]; exact hc⟩
    · by_cases e : a.block = (ids n).1
      · cases o with
        | cells arr T fz =>
          obtain ⟨arr', h1, h2⟩ := hsh _ _ _ rfl
          exact frozen_cells (by rw [e]; exact ho) (by rw [e, put_same _ _ _ hlt, h1])
        | map es k =>
          obtain ⟨es', k', h1⟩ := hmp _ _ rfl
          exact frozen_map (by rw [e]; exact ho) (by rw [e, put_same _ _ _ hlt, h1])
        | _ =>
          exfalso
          have hq := hh.blk n b hb
          cases b with
          | rows sz r => obtain ⟨arr, T, h1, _⟩ := hq; rw [ho] at h1; cases h1
          | map es => obtain ⟨ar, k, h1, _⟩ := hq; rw [ho] at h1; cases h1
          | dat sz r =>
            obtain ⟨arr, T, h1, _⟩ := hq.1 (by rintro rfl; simp [B.real] at hbr)
            rw [ho] at h1; cases h1
      · exact frozen_same (put_other _ _ _ _ e)
  have hlive : ∀ c, Live (upd h n (some b')) ids c → Live h ids c := by
    rintro c ⟨m, y, hy, hyr, rfl⟩
    by_cases e : m = n
    · subst e; exact ⟨m, b, hb, hbr, rfl⟩
    · rw [upd_ne _ _ _ _ e] at hy; exact ⟨m, y, hy, hyr, rfl⟩
  have hav : ∀ c, c < w.heap.size → Avoid F (upd h n (some b')) ids c → Avoid F h ids c := fun c _ x => x.imp id (hlive c)
  refine ⟨⟨?_, ?_, ?_, ?_, ?_, ?_⟩, hgo, fun c _ x => hlive c x, fun _ _ => rfl, Nm.le_refl _⟩
  · intro m c hc
    by_cases e : m = n
    · subst e; exact hh.lt m b hb
    · rw [upd_ne _ _ _ _ e] at hc; exact hh.lt m c hc
  · intro m c hc
    by_cases e : m = n
    · subst e; rw [upd_same] at hc; cases hc; exact hr _ hav
    · rw [upd_ne _ _ _ _ e] at hc
      refine (hh.blk m c hc).mono (hgo.weaken fun _ _ x => .inr x) hav (fun _ _ => rfl) (hh.below m c hc) (fun hcr => put_other _ _ _ _ fun x => e (hh.inj _ _ _ _ hc hb hcr hbr x))
  · intro m c hc
    by_cases e : m = n
    · subst e; rw [upd_same] at hc; cases hc; exact hbel
    · rw [upd_ne _ _ _ _ e] at hc; exact hh.below m c hc
  · intro m k c d hc hd hcr hdr he
    have hc' : ∃ c, h m = some c ∧ c.real = true := by
      by_cases e : m = n
      · subst e; exact ⟨b, hb, hbr⟩
      · rw [upd_ne _ _ _ _ e] at hc; exact ⟨c, hc, hcr⟩
    have hd' : ∃ c, h k = some c ∧ c.real = true := by
      by_cases e : k = n
      · subst e; exact ⟨b, hb, hbr⟩
      · rw [upd_ne _ _ _ _ e] at hd; exact ⟨d, hd, hdr⟩
    obtain ⟨c', hc', hcr'⟩ := hc'
    obtain ⟨d', hd', hdr'⟩ := hd'
    exact hh.inj _ _ _ _ hc' hd' hcr' hdr' he
  · intro m c hc hcr
    by_cases e : m = n
    · subst e; exact hh.out m b hb hbr
    · rw [upd_ne _ _ _ _ e] at hc; exact hh.out m c hc hcr
  · intro c x; rw [put_size]; exact hh.fsz c x

/-- fewer names -/
theorem Chg.less {F : Nat → Prop} {ids : Nat → Nat × Nat} {w : World} {h h' : Hp} {nx : Nm} (hh : RepH F ids w h nx) (hl : ∀ m c, h' m = some c → h m = some c) : Chg F ids w h nx ids w h' nx := by
  have hav : ∀ c, c < w.heap.size → Avoid F h' ids c → Avoid F h ids c := by
    rintro c _ (x | ⟨m, y, hy, hyr, rfl⟩)
    · exact .inl x
    · exact .inr ⟨m, y, hl m y hy, hyr, rfl⟩
  refine ⟨⟨fun m c hc => hh.lt m c (hl m c hc), fun m c hc => ?_, fun m c hc => hh.below m c (hl m c hc), fun m k c d hc hd hcr hdr he => hh.inj _ _ _ _ (hl m c hc) (hl k d hd) hcr hdr he, fun m c hc hcr => hh.out m c (hl m c hc) hcr, hh.fsz⟩,
    Goes.refl _ _, ?_, fun _ _ => rfl, Nm.le_refl _⟩
  · exact (hh.blk m c (hl m c hc)).mono (Goes.refl _ _) hav (fun _ _ => rfl) (hh.below m c (hl m c hc)) (fun _ => rfl)
  · rintro c _ ⟨m, y, hy, hyr, rfl⟩
    exact ⟨m, y, hl m y hy, hyr, rfl⟩
/-- a name is given up -/
theorem Chg.drop {F : Nat → Prop} {ids : Nat → Nat × Nat} {w : World} {h : Hp} {nx : Nm} {n : Nat} (hh : RepH F ids w h nx) : Chg F ids w h nx ids w (upd h n none) nx := by
  refine Chg.less hh fun m c hc => ?_
  by_cases e : m = n
  · subst e; rw [upd_same] at hc; cases hc
  · rwa [upd_ne _ _ _ _ e] at hc
/-- a block is named in another style -/
theorem Chg.style {F : Nat → Prop} {ids : Nat → Nat × Nat} {w : World} {h : Hp} {nx : Nm} {n : Nat} (hh : RepH F ids w h nx) {b b' : B} (hn : h n = some b) (hb : b'.Below nx) (hr : b'.real = true → b.real = true)
    (hB : ∀ A, RepB A ids w (ids n) b → RepB A ids w (ids n) b') : Chg F ids w h nx ids w (upd h n (some b')) nx := by
  have hl : ∀ m c, upd h n (some b') m = some c → (m = n ∧ c = b') ∨ (m ≠ n ∧ h m = some c) := by
    intro m c hc
    by_cases e : m = n
    · subst e; rw [upd_same] at hc; cases hc; exact .inl ⟨rfl, rfl⟩
    · rw [upd_ne _ _ _ _ e] at hc; exact .inr ⟨e, hc⟩
  have hl2 : ∀ m c, upd h n (some b') m = some c → ∃ d, h m = some d ∧ (c.real = true → d.real = true) := by
    intro m c hc
    rcases hl m c hc with ⟨rfl, rfl⟩ | ⟨_, hm⟩
    · exact ⟨b, hn, hr⟩
    · exact ⟨c, hm, id⟩
  have hlive : ∀ c, Live (upd h n (some b')) ids c → Live h ids c := by
    rintro c ⟨m, y, hy, hyr, rfl⟩
    obtain ⟨d, hd, hdr⟩ := hl2 m y hy
    exact ⟨m, d, hd, hdr hyr, rfl⟩
  have hav : ∀ c, c < w.heap.size → Avoid F (upd h n (some b')) ids c → Avoid F h ids c := fun c _ x => x.imp id (hlive c)
  refine ⟨⟨fun m c hc => ?_, fun m c hc => ?_, fun m c hc => ?_, fun m k c d hc hd hcr hdr he => ?_, fun m c hc hcr => ?_, hh.fsz⟩, Goes.refl _ _, fun c _ x => hlive c x, fun _ _ => rfl, Nm.le_refl _⟩
  · obtain ⟨d, hd, _⟩ := hl2 m c hc; exact hh.lt m d hd
  · rcases hl m c hc with ⟨rfl, rfl⟩ | ⟨_, hm⟩
    · exact (hB _ (hh.blk m b hn)).mono (Goes.refl _ _) hav (fun _ _ => rfl) hb (fun _ => rfl)
    · exact (hh.blk m c hm).mono (Goes.refl _ _) hav (fun _ _ => rfl) (hh.below m c hm) (fun _ => rfl)
  · rcases hl m c hc with ⟨rfl, rfl⟩ | ⟨_, hm⟩
    · exact hb
    · exact hh.below m c hm
  · obtain ⟨c', hc', r1⟩ := hl2 m c hc
    obtain ⟨d', hd', r2⟩ := hl2 k d hd
    exact hh.inj _ _ _ _ hc' hd' (r1 hcr) (r2 hdr) he
  · obtain ⟨d, hd, r1⟩ := hl2 m c hc; exact hh.out m d hd (r1 hcr)
theorem Chg.see {F : Nat → Prop} {ids : Nat → Nat × Nat} {w : World} {h : Hp} {nx : Nm} {n : Nat} (hh : RepH F ids w h nx) {b : B} (hn : h n = some b) (hbr : b.real = true) : Chg F ids w h nx ids w (upd h n (some b.see)) nx :=
  Chg.style hh hn (hh.below n b hn).see (fun _ => hbr) fun _ hB => hB.see hbr
theorem Chg.unsee {F : Nat → Prop} {ids : Nat → Nat × Nat} {w : World} {h : Hp} {nx : Nm} {n sz : Nat} {r : List (List D)} (hh : RepH F ids w h nx) (hn : h n = some (.rows sz (toVs r))) (hl : leaves r) : Chg F ids w h nx ids w (upd h n (some (.dat sz r))) nx :=
  Chg.style hh hn trivial (fun _ => rfl) fun _ hB => ⟨fun _ => hB, hl⟩
/-- a name for no block -/
theorem Chg.ghost {F : Nat → Prop} {ids : Nat → Nat × Nat} {w : World} {h : Hp} {nx : Nm} {nm sz : Nat} (hh : RepH F ids w h nx) (hn : ¬ nx nm) : Chg F ids w h nx (upd ids nm (0, 0)) w (upd h nm (some (.dat sz []))) (nx.add nm) := by
  have := Chg.name (w' := w) hh hn (fun _ => False) (0, 0) (.dat sz []) (Goes.refl _ w) trivial (fun h => by cases h) (fun _ _ _ _ => ⟨fun h => absurd rfl h, by simp [leaves]⟩)
  simpa using this

end Go.Proofs.Ytmihhkcbbdpnaaa.Abs
