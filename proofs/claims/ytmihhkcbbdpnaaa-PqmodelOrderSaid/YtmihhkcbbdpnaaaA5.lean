/- The abstract machine, part 5: every operation of part 3 is sound. -/
import Derived.Test.YtmihhkcbbdpnaaaA4
namespace Go.Proofs.Ytmihhkcbbdpnaaa.Abs
section
variable {P : Program} {tab : Tab}

def OpOk (F : Nat → Prop) (ids : Nat → Nat × Nat) (w : World) (h : Hp) (nx : Nm) (r : Result Next) (v : V) (h' : Hp) (nx' : Nm) : Prop :=
  ∃ val w' ids', (r = .ok (.value val) w' ∨ (r = .ok .skip w' ∧ val = undef)) ∧ Chg F ids w h nx ids' w' h' nx' ∧ RepV (Avoid F h' ids') ids' w' v val ∧ v.Below nx'

theorem OpOk.still {F : Nat → Prop} {ids : Nat → Nat × Nat} {w : World} {h : Hp} {nx nx' : Nm} {r : Result Next} {v : V} {val : Value} (hh : RepH F ids w h nx) (hn : nx.le nx') (hr : r = .ok (.value val) w)
    (hv : RepV (Avoid F h ids) ids w v val) (hb : v.Below nx) : OpOk F ids w h nx r v h nx' :=
  ⟨val, w, ids, .inl hr, Chg.skip hh hn, hv, hb.mono hn⟩

theorem cV_rep (A : Nat → Prop) (ids : Nat → Nat × Nat) (w : World) (v : Value) : RepV A ids w (cV v) v := by
  cases v with
  | agg cs =>
    refine .agg _ _ (by simp) fun i x u hx hu => ?_
    rw [List.getElem?_map, Array.getElem?_toList, hu] at hx
    simp at hx; subst hx; exact .c u
  | tuple cs =>
    refine .tup _ _ (by simp) fun i x u hx hu => ?_
    rw [List.getElem?_map, Array.getElem?_toList, hu] at hx
    simp at hx; subst hx; exact .c u
  | _ => exact .c _
theorem cV_below (m : Nm) (v : Value) : (cV v).Below m := by
  cases v with
  | agg cs => exact .agg _ fun x hx => by simp at hx; obtain ⟨u, _, rfl⟩ := hx; exact .c _
  | tuple cs => exact .tup _ fun x hx => by simp at hx; obtain ⟨u, _, rfl⟩ := hx; exact .c _
  | _ => exact .c _

/-- a new block of cells -/
theorem Chg.newRows {F : Nat → Prop} {ids : Nat → Nat × Nat} {w : World} {h : Hp} {nx : Nm} {nm : Nat} (hh : RepH F ids w h nx) (hn : ¬ nx nm) (T : TypeId) (sz : Nat) (r : List (List V)) (arr : Array Value)
    (hlen : r.length * sz ≤ arr.size) (hw : ∀ row ∈ r, row.length = sz) (hb : ∀ row ∈ r, ∀ x ∈ row, x.Below nx)
    (hr : ∀ (i : Nat) (row : List V) (j : Nat) (x : V), r[i]? = some row → row[j]? = some x → ∃ v, arr[i * sz + j]? = some v ∧ RepV (Avoid F h ids) ids w x v) :
    Chg F ids w h nx (upd ids nm (w.heap.size, 0)) (w.alloc (.cells arr T)) (upd h nm (some (.rows sz r))) (nx.add nm) := by
  refine Chg.new hh hn _ _ hb fun ids' A h1 h2 => ?_
  refine ⟨arr, T, alloc_new _ _, by simpa using hlen, hw, fun i row j x hi hj => ?_⟩
  obtain ⟨v, hv, hrep⟩ := hr i row j x hi hj
  exact ⟨v, by simpa using hv, hrep.mono (Goes.alloc _ _ _) h2 h1 (hb row (List.mem_of_getElem? hi) x (List.mem_of_getElem? hj))⟩

theorem Chg.newVar {F : Nat → Prop} {ids : Nat → Nat × Nat} {w : World} {h : Hp} {nx : Nm} {nm : Nat} (hh : RepH F ids w h nx) (hn : ¬ nx nm) (T : TypeId) (xs : List V) (arr : Array Value) (hs : arr.size = xs.length)
    (hb : ∀ x ∈ xs, x.Below nx) (hr : ∀ (i : Nat) (x : V) (v : Value), xs[i]? = some x → arr[i]? = some v → RepV (Avoid F h ids) ids w x v) :
    Chg F ids w h nx (upd ids nm (w.heap.size, 0)) (w.alloc (.cells arr T)) (upd h nm (some (.rows xs.length [xs]))) (nx.add nm) := by
  refine Chg.newRows hh hn T xs.length [xs] arr (by simp [hs]) (by simp) (by simpa using hb) fun i row j x hi hj => ?_
  cases i with
  | zero =>
    simp at hi; subst hi
    have hjl := (List.getElem?_eq_some_iff.1 hj).1
    exact ⟨arr[j], by simp, hr j x _ hj (by simp)⟩
  | succ i => simp at hi

/-- a value whose fresh pointer or slice names the new block -/
theorem OpOk.made {F : Nat → Prop} {ids ids' : Nat → Nat × Nat} {w w' : World} {h h' : Hp} {nx : Nm} {nm : Nat} {v : V} {val : Value} (hc : Chg F ids w h nx ids' w' h' (nx.add nm)) {r : Result Next}
    (hr : r = .ok (.value val) w') (hv : RepV (Avoid F h' ids') ids' w' v val) (hb : v.Below (nx.add nm)) : OpOk F ids w h nx r v h' (nx.add nm) :=
  ⟨val, w', ids', .inl hr, hc, hv, hb⟩

theorem alloc_sound (ht : TabOk P tab) {F : Nat → Prop} {ids : Nat → Nat × Nat} {w : World} {h : Hp} {nx : Nm} {nm : Nat} (hh : RepH F ids w h nx) (hn : ¬ nx nm) {t : TypeId} {τ : Ty} (hτ : tab t = some τ) :
    OpOk F ids w h nx ((do pure (Next.value (← Instr.alloc t true (.tuple #[]))) : Sem Next).run P w) (.p nm τ.size 0 0) (upd h nm (some (.rows τ.size [τ.zero.map .c]))) (nx.add nm) := by
  obtain ⟨z, hz, hzc⟩ := (ht t τ hτ).zero w
  have hl := (ht t τ hτ).zlen
  have hc := Chg.newVar hh hn t (τ.zero.map .c) z.cells (by rw [hzc]; simp) (by simp only [List.mem_map]; rintro x ⟨v, _, rfl⟩; exact .c v) (fun i x v hx hv => by
    rw [hzc] at hv
    rw [List.getElem?_map] at hx
    simp at hv; rw [hv] at hx; simp at hx; subst hx; exact .c v)
  rw [List.length_map, hl] at hc
  refine OpOk.made (val := .pointer (some ⟨w.heap.size, 0, none⟩)) hc ?_ ?_ (.p _ _ _ _ (.inr rfl))
  · simp only [Sem.run_bind, Instr.alloc, hz, Result.andThen_ok, newVar, newRow, run_newObj, Sem.run_pure]; rfl
  · have := RepV.p (A := Avoid F (upd h nm (some (.rows τ.size [τ.zero.map .c]))) (upd ids nm (w.heap.size, 0))) (ids := upd ids nm (w.heap.size, 0)) (w := w.alloc (.cells z.cells t)) nm τ.size 0 0
    simpa [upd_same] using this

theorem box_sound {F : Nat → Prop} {ids : Nat → Nat × Nat} {w : World} {h : Hp} {nx : Nm} {nm : Nat} (hh : RepH F ids w h nx) (hn : ¬ nx nm) {t : TypeId} {x : V} {vx : Value} {xs : List V}
    (hx : RepV (Avoid F h ids) ids w x vx) (hb : x.Below nx) (hxs : x.cells = some xs) :
    OpOk F ids w h nx ((do pure (Next.value (← Instr.box t vx)) : Sem Next).run P w) (.p nm xs.length 0 0) (upd h nm (some (.rows xs.length [xs]))) (nx.add nm) := by
  obtain ⟨s1, s2⟩ := hx.cells hxs
  have hc := Chg.newVar hh hn t xs vx.cells s1 (V.cells_below hb hxs) s2
  refine OpOk.made (val := .pointer (some ⟨w.heap.size, 0, none⟩)) hc ?_ ?_ (.p _ _ _ _ (.inr rfl))
  · simp only [Sem.run_bind, Instr.box, newVar, newRow, run_newObj, Result.andThen_ok, Sem.run_pure]; rfl
  · have := RepV.p (A := Avoid F (upd h nm (some (.rows xs.length [xs]))) (upd ids nm (w.heap.size, 0))) (ids := upd ids nm (w.heap.size, 0)) (w := w.alloc (.cells vx.cells t)) nm xs.length 0 0
    simpa [upd_same] using this

/-! ### plain values -/
theorem beq_dec (a b : Int) : (a == b) = decide (a = b) := by rw [Bool.eq_iff_iff]; simp
theorem bne_dec (a b : Int) : (a != b) = !decide (a = b) := by rw [Bool.eq_iff_iff]; simp
theorem binV_int {op : BinOp} {k : IntKind} {a b : Int} {v : V} (h : intBin op k a b = some v) (hne : op ≠ .shl ∧ op ≠ .shr) (t : TypeId) (w : World) :
    ∃ u, v = .c u ∧ (binOp op t (.int k a) (.int k b)).run P w = .ok u w := by
  cases op
  case quo => simp only [intBin] at h; split at h; (· cases h); next hb => cases h; exact ⟨_, rfl, by simp [binOp, Op.intDiv, hb, wr]⟩
  case rem => simp only [intBin] at h; split at h; (· cases h); next hb => cases h; exact ⟨_, rfl, by simp [binOp, Op.intDiv, hb]⟩
  case eql => simp only [intBin, Option.some.injEq] at h; subst h; exact ⟨_, rfl, by simp only [binOp, Op.intCmp, ne_eq, not_true_eq_false, if_false, Sem.run_pure, beq_dec]⟩
  case neq => simp only [intBin, Option.some.injEq] at h; subst h; exact ⟨_, rfl, by simp only [binOp, Op.intCmp, ne_eq, not_true_eq_false, if_false, Sem.run_pure, bne_dec]⟩
  case shl => exact absurd rfl hne.1
  case shr => exact absurd rfl hne.2
  all_goals simp only [intBin, Option.some.injEq, reduceCtorEq] at h
  all_goals (subst h; exact ⟨_, rfl, by simp [binOp, Op.intArith, Op.intBits, Op.intCmp, bits, wr]⟩)

theorem shift_sound {op : BinOp} {k k' : IntKind} {a b : Int} {v : V} (h : shiftBin op k a b = some v) (t : TypeId) (w : World) :
    ∃ u, v = .c u ∧ (binOp op t (.int k a) (.int k' b)).run P w = .ok u w := by
  unfold shiftBin at h
  split at h
  · cases h
  · next hb => cases op <;> simp at h <;> (subst h; exact ⟨_, rfl, by simp [binOp, Op.shift, hb, wr]⟩)

theorem eqGuard_int (op : BinOp) (t : TypeId) (x y : Operand) (k k' : IntKind) (a b : Int) (w : World) : (eqGuard op t x y (.int k a) (.int k' b)).run P w = .ok () w := by
  unfold eqGuard; cases op <;> rfl
theorem eqGuard_bool (op : BinOp) (t : TypeId) (x y : Operand) (a b : Bool) (w : World) : (eqGuard op t x y (.bool a) (.bool b)).run P w = .ok () w := by
  unfold eqGuard; cases op <;> rfl

theorem kind_fits (ht : TabOk P tab) {t : TypeId} {k : TK} (h : (tab t).map Ty.kind = some k) : ∃ d g, (∀ w, (underlying t).run P w = .ok d w) ∧ P.underlying t = some d ∧ Fits d k g := by
  rw [Option.map_eq_some_iff] at h
  obtain ⟨τ, hτ, rfl⟩ := h
  obtain ⟨d, h1, h2, h3⟩ := (ht t τ hτ).desc
  exact ⟨d, _, h1, h2, h3⟩

theorem binV_sound (ht : TabOk P tab) {op : BinOp} {t : TypeId} {x y : V} {v : V} {A : Nat → Prop} {ids : Nat → Nat × Nat} {w : World} {vx vy : Value} (hx : RepV A ids w x vx) (hy : RepV A ids w y vy)
    (h : binV ((tab t).map Ty.kind) op x y = some v) (ox oy : Operand) :
    ∃ u, v = .c u ∧ (do eqGuard op t ox oy vx vy; binOp op t vx vy).run P w = .ok u w := by
  unfold binV at h
  split at h
  · next k a k' b =>
    cases hx; cases hy
    simp only [Sem.run_bind, eqGuard_int, Result.andThen_ok]
    split at h
    · exact shift_sound h t w
    · exact shift_sound h t w
    · next h1 h2 =>
      split at h
      · next e => subst e; exact binV_int h ⟨fun e => by subst e; exact h1 rfl, fun e => by subst e; exact h2 rfl⟩ t w
      · cases h
  · next a b =>
    cases hx; cases hy
    simp only [Sem.run_bind, eqGuard_bool, Result.andThen_ok]
    split at h
    · next hk =>
      obtain ⟨d, g, h1, h2, hf⟩ := kind_fits ht hk
      cases hf
      cases h
      exact ⟨_, rfl, run_eql_bool w t a b h2⟩
    · next hk =>
      obtain ⟨d, g, h1, h2, hf⟩ := kind_fits ht hk
      cases hf
      cases h
      exact ⟨_, rfl, run_neq_bool w t a b h2⟩
    · cases h
  · cases h

theorem unV_sound {op : UnOp} {x v : V} {A : Nat → Prop} {ids : Nat → Nat × Nat} {w : World} {vx : Value} (hx : RepV A ids w x vx) (h : unV op x = some v) : ∃ u, v = .c u ∧ (Op.unary op vx).run P w = .ok u w := by
  unfold unV at h
  split at h
  · cases hx; cases h; exact ⟨_, rfl, by simp [Op.unary, Op.intArith, wr]⟩
  · cases hx; cases h; exact ⟨_, rfl, by simp [Op.unary]⟩
  · cases h

theorem convV_sound (ht : TabOk P tab) {src dst : TypeId} {x v : V} {A : Nat → Prop} {ids : Nat → Nat × Nat} {w : World} {vx : Value} (hx : RepV A ids w x vx) (hsrc : (tab src).isSome = true) (h : convV tab dst x = some v) :
    ∃ u, v = .c u ∧ (convert src dst vx).run P w = .ok u w := by
  unfold convV at h
  split at h
  · next k k' n hk =>
    cases hx
    cases h
    obtain ⟨d, g, h1, h2, hf⟩ := kind_fits ht hk
    cases hf
    obtain ⟨τ, hτ⟩ := Option.isSome_iff_exists.1 hsrc
    obtain ⟨d', h3, _, _⟩ := (ht src τ hτ).desc
    exact ⟨_, rfl, by simp [convert, h1, h3, Conv.intToInt, wr]⟩
  · cases h
end
end Go.Proofs.Ytmihhkcbbdpnaaa.Abs
