/- The abstract machine, part 28: structs compared, maps with whole numbers as keys. -/
import Derived.Test.YtmihhkcbbdpnaaaC12
import Derived.Laws.StructEq
namespace Go.Proofs.Ytmihhkcbbdpnaaa.Abs
set_option linter.unusedVariables false
set_option linter.unusedSimpArgs false
section
variable {P : Program} {tab : Tab}

/-! ### structs of numbers and truth values, compared -/
def leafEqK : Bool → V → V → Option Bool
  | true, .c (.int k a), .c (.int k' b) => if k = k' then some (decide (a = b)) else none
  | false, .c (.bool a), .c (.bool b) => some (a == b)
  | _, _, _ => none
def listEqK : List Bool → List V → List V → Option Bool
  | [], [], [] => some true
  | k :: ks, x :: xs, y :: ys => (leafEqK k x y).bind fun b => (listEqK ks xs ys).bind fun c => some (b && c)
  | _, _, _ => none
def eqFieldsOk (P : Program) : List Field → Nat → List Bool → Bool
  | [], _, [] => true
  | f :: fs, i, k :: ks => f.name != "_" && f.offset == i && (match P.underlying f.type, k with
    | some (.int _), true => true
    | some .bool, false => true
    | _, _ => false) && eqFieldsOk P fs (i + 1) ks
  | _, _, _ => false
/-- the type is a struct of such cells, one each -/
def eqTyOk (P : Program) (t : TypeId) (ks : List Bool) : Bool :=
  (match P.underlying t with
    | some (.struct fs) => eqFieldsOk P fs.toList 0 ks
    | _ => false) && !P.stoodInHeld t && !P.eqGuardType P.depth t
theorem run_isAgg_int {t : TypeId} {k : IntKind} (h : P.underlying t = some (.int k)) (w : World) : (isAgg t).run P w = .ok false w := by
  simp [isAgg, run_underlying h]
theorem run_isAgg_bool {t : TypeId} (h : P.underlying t = some .bool) (w : World) : (isAgg t).run P w = .ok false w := by
  simp [isAgg, run_underlying h]
theorem eqFields_run (w : World) (d : Nat) {A : Nat → Prop} {ids : Nat → Nat × Nat} : ∀ (fs : List Field) (i : Nat) (ks : List Bool) (X Y : List V) (vx vy : Array Value) (z : Bool), eqFieldsOk P fs i ks = true → listEqK ks (X.drop i) (Y.drop i) = some z →
    vx.size = X.length → vy.size = Y.length → (∀ (i : Nat) (x : V) (v : Value), X[i]? = some x → vx[i]? = some v → RepV A ids w x v) → (∀ (i : Nat) (x : V) (v : Value), Y[i]? = some x → vy[i]? = some v → RepV A ids w x v) →
    (Op.eqFields (d + 1) vx vy fs).run P w = .ok z w := by
  intro fs
  induction fs with
  | nil =>
    intro i ks X Y vx vy z hok hz _ _ _ _
    cases ks with
    | nil =>
      have : z = true := by
        revert hz
        cases X.drop i <;> cases Y.drop i <;> simp [listEqK]
      subst this
      simp [Op.eqFields]
    | cons k ks => simp [eqFieldsOk] at hok
  | cons f fs ih =>
    intro i ks X Y vx vy z hok hz hsx hsy hx hy
    cases ks with
    | nil => simp [eqFieldsOk] at hok
    | cons k ks =>
      simp only [eqFieldsOk, Bool.and_eq_true, bne_iff_ne, beq_iff_eq] at hok
      obtain ⟨⟨⟨hn, ho⟩, hk⟩, hrest⟩ := hok
      cases hX : X.drop i with
      | nil => rw [hX] at hz; simp [listEqK] at hz
      | cons x xs =>
        cases hY : Y.drop i with
        | nil => rw [hX, hY] at hz; simp [listEqK] at hz
        | cons y ys =>
          rw [hX, hY] at hz
          simp only [listEqK, Option.bind_eq_some_iff, Option.some.injEq] at hz
          obtain ⟨b, hb, c, hc, rfl⟩ := hz
          have gx : X[i]? = some x := by rw [← List.head?_drop, hX]; rfl
          have gy : Y[i]? = some y := by rw [← List.head?_drop, hY]; rfl
          have dx : X.drop (i + 1) = xs := by rw [← List.tail_drop, hX]; rfl
          have dy : Y.drop (i + 1) = ys := by rw [← List.tail_drop, hY]; rfl
          obtain ⟨v, hv⟩ : ∃ v, vx[i]? = some v := by
            have : i < X.length := (List.getElem?_eq_some_iff.1 gx).1
            exact ⟨vx[i], by rw [Array.getElem?_eq_getElem (by omega)]⟩
          obtain ⟨u, hu⟩ : ∃ v, vy[i]? = some v := by
            have : i < Y.length := (List.getElem?_eq_some_iff.1 gy).1
            exact ⟨vy[i], by rw [Array.getElem?_eq_getElem (by omega)]⟩
          have rx := hx i x v gx hv
          have ry := hy i y u gy hu
          have hnext := ih (i + 1) ks X Y vx vy c hrest (by rw [dx, dy]; exact hc) hsx hsy hx hy
          have hfin : ∀ b : Bool, (Op.equalIn (d + 1) f.type v u).run P w = .ok b w → (isAgg f.type).run P w = .ok false w → (Op.eqFields (d + 1) vx vy (f :: fs)).run P w = .ok (b && c) w := by
            intro b he ha
            have pv : (part f.type vx f.offset).run P w = .ok v w := by simp [part, ha, ho, hv]
            have pu : (part f.type vy f.offset).run P w = .ok u w := by simp [part, ha, ho, hu]
            simp only [Op.eqFields, ne_eq, hn, not_false_eq_true, if_true, Sem.run_bind, pv, pu, he, Result.andThen_ok]
            cases b with
            | true => simp only [Bool.not_true, Bool.false_eq_true, if_false, Bool.true_and]; exact hnext
            | false => simp
          cases k with
          | true =>
            have hu' : ∃ k, P.underlying f.type = some (.int k) := by
              revert hk
              cases P.underlying f.type with
              | none => simp
              | some t => cases t <;> simp
            obtain ⟨kk, hu'⟩ := hu'
            revert hb
            cases rx <;> simp only [leafEqK, reduceCtorEq, false_implies]
            cases ry <;> try (cases v <;> simp only [leafEqK, reduceCtorEq, false_implies])
            cases v <;> try (simp only [leafEqK, reduceCtorEq, false_implies])
            cases u <;> try (simp only [leafEqK, reduceCtorEq, false_implies])
            intro hb
            split at hb
            · next e =>
              subst e
              cases hb
              refine hfin _ ?_ (run_isAgg_int hu' w)
              rw [run_equalIn_int w d _ _ _ _ _ hu']
              rfl
            · cases hb
          | false =>
            have hu' : P.underlying f.type = some .bool := by
              revert hk
              cases P.underlying f.type with
              | none => simp
              | some t => cases t <;> simp
            revert hb
            cases rx <;> simp only [leafEqK, reduceCtorEq, false_implies]
            cases ry <;> try (cases v <;> simp only [leafEqK, reduceCtorEq, false_implies])
            cases v <;> try (simp only [leafEqK, reduceCtorEq, false_implies])
            cases u <;> try (simp only [leafEqK, reduceCtorEq, false_implies])
            intro hb
            cases hb
            exact hfin _ (run_equalIn_bool' w d _ _ _ hu') (run_isAgg_bool hu' w)
theorem eq_aop {M : Nm} {nm : Nat} {neg : Bool} {ty ty' : TypeId} {x y : Operand} {e : Operand → V} {h : Hp} {K : V → Hp → Prop} {ks : List Bool} (hty : eqTyOk P ty ks = true) {X Y : List V} {z : Bool} (hx : e x = .agg X) (hy : e y = .agg Y)
    (hz : listEqK ks X Y = some z) (hK : K (.c (.bool (z != neg))) h) : AOp P (.binOp (if neg then .neq else .eql) ty x y ty') e h M nm K := by
  refine AOp.ok fun F ids w a o ho hh h1 h2 => ⟨_, _, hK, ?_⟩
  simp only [eqTyOk, Bool.and_eq_true, Bool.not_eq_true'] at hty
  obtain ⟨⟨hfs, hst⟩, hg⟩ := hty
  have r1 := h1 x (by simp [Op.operands])
  have r2 := h1 y (by simp [Op.operands])
  rw [hx] at r1
  rw [hy] at r2
  cases hax : a.eval x <;> rw [hax] at r1 <;> cases r1
  next vx sx rx =>
  cases hay : a.eval y <;> rw [hay] at r2 <;> cases r2
  next vy sy ry =>
  cases hu : P.underlying ty with
  | none => rw [hu] at hfs; cases hfs
  | some d =>
    rw [hu] at hfs
    cases d with
    | struct fs =>
      have hfo : P.fieldsOf ty = fs := by simp [Program.fieldsOf, hu]
      have hS : P.underlying ty = some (.struct (P.fieldsOf ty)) := by rw [hu, hfo]
      have heq : (Op.equalIn 10000 ty (.agg vx) (.agg vy)).run P w = .ok z w := by
        rw [show (10000 : Nat) = 9999 + 1 from rfl, run_equalIn_agg w 9999 ty _ _ hS hst, hfo]
        exact eqFields_run w 9998 fs.toList 0 ks X Y vx vy z hfs (by simpa using hz) sx sy rx ry
      have hrun : (execOp a.eval o).run P w = .ok (.value (.bool (z != neg))) w := by
        cases neg with
        | true =>
          simp only [execOp, ho, if_true, Sem.run_bind, hax, hay, run_eqGuard_agg w _ ty x y vx vy hg, Result.andThen_ok, run_neq_struct, heq, Sem.run_pure]
          cases z <;> rfl
        | false =>
          simp only [execOp, ho, Bool.false_eq_true, if_false, Sem.run_bind, hax, hay, run_eqGuard_agg w _ ty x y vx vy hg, Result.andThen_ok, run_eql_struct, heq, Sem.run_pure]
          cases z <;> rfl
      exact OpOk.still hh (Nm.le_add _ _) hrun (.c _) (.c _)
    | _ => cases hfs
theorem eqB {ty ty' : TypeId} {x y : Operand} {t : List V} {h : List (Nat × B)} {b : Nat} {K : V → List (Nat × B) → Prop} (ks : List Bool) (hty : eqTyOk P ty ks = true) {X Y : List V} {z : Bool} (hx : evS (tAt t) x = .agg X) (hy : evS (tAt t) y = .agg Y)
    (hz : listEqK ks X Y = some z) (k : K (.c (.bool z)) h) : OpB P (.binOp .eql ty x y ty') t h b K :=
  ⟨eq_aop (neg := false) (K := fun v h' => ∃ l, h' = hAt l ∧ K v l) hty hx hy hz ⟨h, rfl, by rw [Bool.bne_false]; exact k⟩⟩
theorem neqB {ty ty' : TypeId} {x y : Operand} {t : List V} {h : List (Nat × B)} {b : Nat} {K : V → List (Nat × B) → Prop} (ks : List Bool) (hty : eqTyOk P ty ks = true) {X Y : List V} {z : Bool} (hx : evS (tAt t) x = .agg X) (hy : evS (tAt t) y = .agg Y)
    (hz : listEqK ks X Y = some z) (k : K (.c (.bool (!z))) h) : OpB P (.binOp .neq ty x y ty') t h b K :=
  ⟨eq_aop (neg := true) (K := fun v h' => ∃ l, h' = hAt l ∧ K v l) hty hx hy hz ⟨h, rfl, by rw [Bool.bne_true]; exact k⟩⟩
theorem deqB {ty ty' : TypeId} {x y : Operand} {t : List V} {h : List (Nat × B)} {b : Nat} {K : V → List (Nat × B) → Dyn → Prop} (ks : List Bool) (hty : eqTyOk P ty ks = true) {X Y : List V} {z : Bool} (hx : evS (tAt t) x = .agg X) (hy : evS (tAt t) y = .agg Y)
    (hz : listEqK ks X Y = some z) (k : K (.c (.bool z)) h ⟨[], [], [], false⟩) : DOpB P (.binOp .eql ty x y ty') t h b K :=
  DOpB.still (fun h2 M => eq_aop (neg := false) hty hx hy hz ⟨by rw [Bool.bne_false], rfl⟩) k
theorem dneqB {ty ty' : TypeId} {x y : Operand} {t : List V} {h : List (Nat × B)} {b : Nat} {K : V → List (Nat × B) → Dyn → Prop} (ks : List Bool) (hty : eqTyOk P ty ks = true) {X Y : List V} {z : Bool} (hx : evS (tAt t) x = .agg X) (hy : evS (tAt t) y = .agg Y)
    (hz : listEqK ks X Y = some z) (k : K (.c (.bool (!z))) h ⟨[], [], [], false⟩) : DOpB P (.binOp .neq ty x y ty') t h b K :=
  DOpB.still (fun h2 M => eq_aop (neg := true) hty hx hy hz ⟨by rw [Bool.bne_true], rfl⟩) k

/-! ### maps with whole numbers as keys -/
def mapFind (k : Int) : List (Value × V) → Nat → Option (Nat × V)
  | [], _ => none
  | e :: es, i => match e.1 with
    | .int _ a => if k = a then some (i, e.2) else mapFind k es (i + 1)
    | _ => none
def mapSet (k : IntKind) (n : Int) (v : V) : List (Value × V) → List (Value × V)
  | [] => [(.int k n, v)]
  | e :: es => match e.1 with
    | .int k' a => if n = a then (.int k' a, v) :: es else e :: mapSet k n v es
    | _ => e :: es
def IntKeys (k : IntKind) (es : List (Value × V)) : Prop := ∀ e ∈ es, ∃ n, e.1 = .int k n
theorem findNow_int {kk : IntKind} {k : IntKind} {n : Int} {A : Nat → Prop} {ids : Nat → Nat × Nat} {w : World} : ∀ (es : List (Value × V)) (ar : List MapEntry) (i : Nat), IntKeys k es → ar.length = es.length →
    (∀ (i : Nat) (e : Value × V) (m : MapEntry), es[i]? = some e → ar[i]? = some m → m.key = e.1 ∧ RepV A ids w e.2 m.val) →
    (match mapFind n es i with
      | none => Instr.findNow (.int kk) (.int k n) ar i = some none ∧ ∀ v, mapSet k n v es = es ++ [(.int k n, v)]
      | some (j, v) => ∃ u, Instr.findNow (.int kk) (.int k n) ar i = some (some (j, u)) ∧ RepV A ids w v u ∧ i ≤ j ∧ j - i < es.length ∧ (es[j - i]?).map (·.1) = some (.int k n) ∧ ∀ v', mapSet k n v' es = es.set (j - i) (.int k n, v')) := by
  intro es
  induction es with
  | nil =>
    intro ar i _ hl _
    cases ar with
    | nil => exact ⟨rfl, fun _ => rfl⟩
    | cons m ar => simp at hl
  | cons e es ih =>
    intro ar i hk hl hr
    cases ar with
    | nil => simp at hl
    | cons m ar =>
      obtain ⟨a, ha⟩ := hk e (List.mem_cons_self ..)
      obtain ⟨ek, ev⟩ := e
      simp only at ha
      subst ha
      obtain ⟨hm, hv⟩ := hr 0 _ m rfl rfl
      simp only at hm hv
      simp only [mapFind, Instr.findNow, hm, Instr.sameNow, if_true, mapSet]
      by_cases h : n = a
      · subst h
        simp only [if_true, BEq.rfl]
        exact ⟨m.val, rfl, hv, Nat.le_refl _, by simp, by simp, fun v' => by simp⟩
      · have hb : (n == a) = false := by simp [h]
        simp only [h, if_false, hb]
        have := ih ar (i + 1) (fun e he => hk e (List.mem_cons_of_mem _ he)) (by simpa using hl) (fun j e m he hm => hr (j + 1) e m (by simpa using he) (by simpa using hm))
        revert this
        cases mapFind n es (i + 1) with
        | none =>
          rintro ⟨h1, h2⟩
          exact ⟨h1, fun v => by simp [h2]⟩
        | some p =>
          obtain ⟨j, v⟩ := p
          rintro ⟨u, h1, h2, h3, h4, h5, h6⟩
          have e1 : j - i = (j - (i + 1)) + 1 := by omega
          refine ⟨u, h1, h2, by omega, by simp; omega, ?_, fun v' => ?_⟩
          · rw [e1]; simpa using h5
          · rw [e1, h6]; simp

theorem mapFind_below {m : Nm} {i : Int} : ∀ {es : List (Value × V)} {j a : Nat} {v : V}, mapFind i es j = some (a, v) → (∀ e ∈ es, e.2.Below m) → v.Below m
  | [], _, _, _, h, _ => by simp [mapFind] at h
  | e :: es, j, a, v, h, hb => by
    simp only [mapFind] at h
    split at h
    · split at h
      · cases h; exact hb e (List.mem_cons_self ..)
      · exact mapFind_below h fun e he => hb e (List.mem_cons_of_mem _ he)
    · cases h

theorem map_desc (ht : TabOk P tab) {t : TypeId} {kt et : TypeId} (h : (tab t).map Ty.kind = some (.map kt et)) : P.underlying t = some (.map kt et) := by
  obtain ⟨d, g, h1, h2, hf⟩ := kind_fits ht h
  cases hf
  exact h2
theorem int_desc2 (ht : TabOk P tab) {t : TypeId} {kk : IntKind} (h : (tab t).map Ty.kind = some (.int kk)) : P.underlying t = some (.int kk) := by
  obtain ⟨d, g, h1, h2, hf⟩ := kind_fits ht h
  cases hf
  exact h2
theorem checkKey_int {t : TypeId} {kk : IntKind} (h : P.underlying t = some (.int kk)) (em : Bool) (k : IntKind) (i : Int) (w : World) : (Instr.checkKey em 10000 t (.int k i)).run P w = .ok () w := by
  rw [show (10000 : Nat) = 9999 + 1 from rfl, Instr.checkKey]
  simp [run_underlying h]
theorem findKey_now {t : TypeId} {kk : IntKind} (h : P.underlying t = some (.int kk)) {x : Value} {es : List MapEntry} {r : Option (Nat × Value)} (hr : Instr.findNow (.int kk) x es 0 = some r) (w : World) : (Instr.findKey t x es).run P w = .ok r w := by
  simp [Instr.findKey, run_underlying h, hr]
theorem RepH.map {F : Nat → Prop} {ids : Nat → Nat × Nat} {w : World} {h : Hp} {nx : Nm} (hh : RepH F ids w h nx) {n : Nat} {es : List (Value × V)} (hn : h n = some (.map es)) : ∃ (ar : Array MapEntry) (k : Nat), w.heap[(ids n).1]? = some (.map ar k) ∧ ar.size = es.length ∧
      ∀ (i : Nat) (e : Value × V) (m : MapEntry), es[i]? = some e → ar[i]? = some m → m.key = e.1 ∧ RepV (Avoid F h ids) ids w e.2 m.val := hh.blk n _ hn
theorem getObj_run {w : World} {b : Nat} {es : Array MapEntry} {c : Nat} (h : w.heap[b]? = some (.map es c)) : (getObj b).run P w = .ok (.map es c) w := by
  simp [getObj, Sem.run, h]
theorem setObj_run {w : World} {b : Nat} {es : Array MapEntry} {c : Nat} (o : Obj) (h : w.heap[b]? = some (.map es c)) : (setObj b o).run P w = .ok () (World.put w b o) := by
  simp [setObj, Sem.run, World.put, h]
theorem makeMap_aop {M : Nm} {nm : Nat} (hfresh : ¬ M nm) {ty : TypeId} {e : Operand → V} {h : Hp} {K : V → Hp → Prop} (hK : K (.mp nm) (upd h nm (some (.map [])))) : AOp P (.makeMap ty none) e h M nm K := by
  refine AOp.ok fun F ids w a o ho hh h1 h2 => ⟨_, _, hK, ?_⟩
  have hchg := Chg.new hh hfresh (.map #[] 0) (.map []) (by intro e he; cases he) (fun ids' A _ _ => ⟨#[], 0, alloc_new _ _, rfl, fun i e m he => by simp at he⟩) (by intro _ _ _ h; cases h)
  refine OpOk.made (val := .map (some w.heap.size)) hchg ?_ ?_ (.mp _ (.inr rfl))
  · simp [execOp, ho, Instr.makeMap]
  · have := RepV.mp (A := Avoid F (upd h nm (some (B.map []))) (upd ids nm (w.heap.size, 0))) (ids := upd ids nm (w.heap.size, 0)) (w := w.alloc (Obj.map #[] 0)) nm
    rw [upd_same] at this
    exact this
theorem makeMapB {ty : TypeId} {t : List V} {h : List (Nat × B)} {b : Nat} {K : V → List (Nat × B) → Prop} (k : hSet h b (.map []) fun h => K (.mp b) h) : OpB P (.makeMap ty none) t h b K := by
  obtain ⟨l', hk, e⟩ := hSet_of k
  exact ⟨makeMap_aop (M := Lt b) (Nat.lt_irrefl b) (K := fun v h' => ∃ l, h' = hAt l ∧ K v l) ⟨l', e.symm, hk⟩⟩
theorem look_aop (ht : TabOk P tab) {M : Nm} {nm : Nat} {ty kt et : TypeId} {kk : IntKind} {z : Value} {x ix : Operand} {e : Operand → V} {h : Hp} {K : V → Hp → Prop} (hty : (tab ty).map Ty.kind = some (.map kt et)) (hkt : (tab kt).map Ty.kind = some (.int kk))
    (hz : (P.info? et).bind (fun i => i.zero) = some z) {n : Nat} {es : List (Value × V)} {k : IntKind} {i : Int} (hx : e x = .mp n) (hn : h n = some (.map es)) (hks : IntKeys k es) (hi : e ix = .c (.int k i))
    (hK : K (match mapFind i es 0 with | some p => p.2 | none => cV z) h) : AOp P (.lookup ty x ix false) e h M nm K := by
  refine AOp.ok fun F ids w a o ho hh h1 h2 => ⟨_, _, hK, ?_⟩
  have ei : a.eval ix = .int k i := by have := h1 ix (by simp [Op.operands]); rw [hi] at this; exact int_val this
  have rx := h1 x (by simp [Op.operands])
  rw [hx] at rx
  have ex : a.eval x = .map (some (ids n).1) := by
    generalize a.eval x = q at rx
    cases rx; rfl
  obtain ⟨ar, clk, g1, g2, g3⟩ := hh.map hn
  have um := map_desc ht hty
  have uk := int_desc2 ht hkt
  have hzr : (zeroValue et).run P w = .ok z w := by
    rw [Option.bind_eq_some_iff] at hz
    obtain ⟨i, q1, q2⟩ := hz
    simp [zeroValue, Go.typeInfo, q1, q2]
  have hf := findNow_int (kk := kk) (n := i) es ar.toList 0 hks (by simpa using g2) (fun i e m he hm => g3 i e m he (by simpa using hm))
  revert hf
  cases hm : mapFind i es 0 with
  | none =>
    rintro ⟨q1, -⟩
    have hfk := findKey_now uk q1 w
    exact OpOk.still (val := z) hh (Nm.le_add _ _) (by simp [execOp, ho, Instr.lookup, run_underlying um, ex, ei, getObj_run g1, checkKey_int uk, hfk, hzr]) (cV_rep _ _ _ _) (cV_below _ _)
  | some p =>
    obtain ⟨j, v⟩ := p
    rintro ⟨u, q1, q2, -, q3, q4, -⟩
    have hfk := findKey_now uk q1 w
    refine OpOk.still (val := u) hh (Nm.le_add _ _) (by simp [execOp, ho, Instr.lookup, run_underlying um, ex, ei, getObj_run g1, checkKey_int uk, hfk]) q2 ?_
    exact mapFind_below hm (fun e he => hh.below n _ hn e he)
theorem lookB (ht : TabOk P tab) {ty kt et : TypeId} {kk : IntKind} {z : Value} {x ix : Operand} {t : List V} {h : List (Nat × B)} {b : Nat} {K : V → List (Nat × B) → Prop} (hty : (tab ty).map Ty.kind = some (.map kt et)) (hkt : (tab kt).map Ty.kind = some (.int kk))
    (hz : (P.info? et).bind (fun i => i.zero) = some z) {n : Nat} {es : List (Value × V)} {k : IntKind} {i : Int} (hx : evS (tAt t) x = .mp n) (hi : evS (tAt t) ix = .c (.int k i)) (hn : hAt h n = some (.map es)) (hks : IntKeys k es)
    (v : V) (hv : (match mapFind i es 0 with | some p => p.2 | none => cV z) = v) (k : K v h) : OpB P (.lookup ty x ix false) t h b K :=
  ⟨look_aop ht (K := fun v h' => ∃ l, h' = hAt l ∧ K v l) hty hkt hz hx hn hks hi ⟨h, rfl, by rw [hv]; exact k⟩⟩

theorem put_map {F : Nat → Prop} {ids : Nat → Nat × Nat} {w : World} {h : Hp} {nx : Nm} (hh : RepH F ids w h nx) {n : Nat} {es es' : List (Value × V)} (hn : h n = some (.map es)) {ar ar' : Array MapEntry} {c c' : Nat} (g1 : w.heap[(ids n).1]? = some (.map ar c)) (hl : ar'.size = es'.length)
    (hb : ∀ e ∈ es', e.2.Below nx) (hr : ∀ (i : Nat) (e : Value × V) (m : MapEntry), es'[i]? = some e → ar'[i]? = some m → m.key = e.1 ∧ RepV (Avoid F h ids) ids w e.2 m.val) :
    Chg F ids w h nx ids (World.put w (ids n).1 (.map ar' c')) (upd h n (some (.map es'))) nx := by
  have hlt : (ids n).1 < w.heap.size := (Array.getElem?_eq_some_iff.1 g1).1
  refine Chg.write hh hn rfl (.map ar c) _ g1 (fun _ _ _ h => by cases h) (fun es k _ => ⟨_, _, rfl⟩) hb fun A hA => ⟨ar', c', put_same _ _ _ hlt, hl, fun i e m he hm => ?_⟩
  obtain ⟨q1, q2⟩ := hr i e m he hm
  refine ⟨q1, q2.mono (A := Avoid F h ids) ?_ hA (fun _ _ => rfl) (hb e (List.mem_of_getElem? he))⟩
  refine ⟨Nat.le_of_eq (put_size _ _ _).symm, fun b _ hb => put_other _ _ _ _ fun e => hb (.inr ⟨n, _, hn, rfl, e.symm⟩), fun b arr T fz hc => ⟨arr, ?_, rfl⟩, fun b es k hc => ?_, ⟨rfl, rfl⟩, fun a => ?_⟩
  · rw [put_other _ _ _ _ (fun e => by subst e; rw [g1] at hc; cases hc)]; exact hc
  · by_cases e : b = (ids n).1
    · subst e; exact ⟨ar', c', put_same _ _ _ hlt⟩
    · exact ⟨es, k, by rw [put_other _ _ _ _ e]; exact hc⟩
  · by_cases e : a.block = (ids n).1
    · exact frozen_map (by rw [e]; exact g1) (by rw [e]; exact put_same _ _ _ hlt)
    · exact frozen_same (put_other _ _ _ _ e)
theorem mapUpdate_aop (ht : TabOk P tab) {M : Nm} {nm : Nat} {ty kt et : TypeId} {kk : IntKind} {x ix y : Operand} {e : Operand → V} {h : Hp} {K : V → Hp → Prop} (hty : (tab ty).map Ty.kind = some (.map kt et)) (hkt : (tab kt).map Ty.kind = some (.int kk))
    {n : Nat} {es : List (Value × V)} {k : IntKind} {i : Int} (hx : e x = .mp n) (hn : h n = some (.map es)) (hks : IntKeys k es) (hi : e ix = .c (.int k i))
    (hK : K .un (upd h n (some (.map (mapSet k i (e y) es))))) : AOp P (.mapUpdate ty x ix y) e h M nm K := by
  refine AOp.ok fun F ids w a o ho hh h1 h2 => ⟨_, _, hK, ?_⟩
  have ei : a.eval ix = .int k i := by have := h1 ix (by simp [Op.operands]); rw [hi] at this; exact int_val this
  have rx := h1 x (by simp [Op.operands])
  have ry := h1 y (by simp [Op.operands])
  have by' := h2 y (by simp [Op.operands])
  rw [hx] at rx
  have ex : a.eval x = .map (some (ids n).1) := by
    generalize a.eval x = q at rx
    cases rx; rfl
  obtain ⟨ar, clk, g1, g2, g3⟩ := hh.map hn
  have um := map_desc ht hty
  have uk := int_desc2 ht hkt
  have hlt : (ids n).1 < w.heap.size := (Array.getElem?_eq_some_iff.1 g1).1
  have hf := findNow_int (kk := kk) (n := i) es ar.toList 0 hks (by simpa using g2) (fun i e m he hm => g3 i e m he (by simpa using hm))
  have hbel := hh.below n _ hn
  revert hf
  cases hm : mapFind i es 0 with
  | none =>
    rintro ⟨q1, q2⟩
    have hfk := findKey_now uk q1 w
    rw [q2]
    have hchg := put_map hh hn (es' := es ++ [(Value.int k i, e y)]) (ar' := ar.push { key := .int k i, val := a.eval y, born := clk }) (c' := clk + 1) g1 (by simp [g2]) (fun e he => by
        rcases List.mem_append.1 he with he | he
        · exact hbel e he
        · cases List.mem_singleton.1 he; exact by') (fun j e m he hm => by
        by_cases hj : j < es.length
        · rw [List.getElem?_append_left hj] at he
          rw [Array.getElem?_push, if_neg (by omega)] at hm
          exact g3 j e m he hm
        · have hje : j = es.length := by
            have := (List.getElem?_eq_some_iff.1 he).1
            simp at this; omega
          subst hje
          rw [List.getElem?_append_right (Nat.le_refl _), Nat.sub_self] at he
          rw [Array.getElem?_push, if_pos g2.symm] at hm
          cases he; cases hm
          exact ⟨rfl, ry⟩)
    refine ⟨undef, _, ids, .inr ⟨?_, rfl⟩, hchg.trans (Chg.skip hchg.heap (Nm.le_add _ _)), .un _, .un⟩
    simp [execOp, ho, Instr.mapUpdate, run_underlying um, ex, ei, getObj_run g1, checkKey_int uk, hfk, setObj_run _ g1]
  | some p =>
    obtain ⟨j, v⟩ := p
    rintro ⟨u, q1, q2, q0, q3, q4, q5⟩
    have hfk := findKey_now uk q1 w
    rw [Nat.sub_zero] at q3 q4 q5
    rw [q5]
    have hjs : j < ar.size := by omega
    have hkj : ar[j].key = .int k i := by
      rw [List.getElem?_eq_getElem q3] at q4
      have := (g3 j es[j] ar[j] (by simp [q3]) (by simp [hjs])).1
      rw [this]; simpa using q4
    have hchg := put_map hh hn (es' := es.set j (Value.int k i, e y)) (ar' := ar.modify j fun e => { e with key := .int k i, val := a.eval y }) (c' := clk) g1 (by simp [g2]) (fun e he => by
        rcases List.mem_or_eq_of_mem_set he with he | rfl
        · exact hbel e he
        · exact by') (fun l e m he hm => by
        by_cases hj : l = j
        · subst hj
          rw [List.getElem?_set_self q3] at he
          rw [Array.getElem?_modify, if_pos rfl] at hm
          cases he
          rw [Option.map_eq_some_iff] at hm
          obtain ⟨m0, _, rfl⟩ := hm
          exact ⟨rfl, ry⟩
        · rw [List.getElem?_set_ne (Ne.symm hj)] at he
          rw [Array.getElem?_modify, if_neg (Ne.symm hj)] at hm
          exact g3 l e m he hm)
    refine ⟨undef, _, ids, .inr ⟨?_, rfl⟩, hchg.trans (Chg.skip hchg.heap (Nm.le_add _ _)), .un _, .un⟩
    have hst : ∀ w, (Instr.keyThatStays (.int k i) (.int k i)).run P w = .ok (.int k i) w := fun w => by
      simp [Instr.keyThatStays, Instr.sameBits]
    simp [execOp, ho, Instr.mapUpdate, run_underlying um, ex, ei, getObj_run g1, checkKey_int uk, hfk, setObj_run _ g1, hjs, hkj, hst]
theorem mapSetB (ht : TabOk P tab) {ty kt et : TypeId} {kk : IntKind} {x ix y : Operand} {t : List V} {h : List (Nat × B)} {b : Nat} {K : V → List (Nat × B) → Prop} (hty : (tab ty).map Ty.kind = some (.map kt et)) (hkt : (tab kt).map Ty.kind = some (.int kk))
    {n : Nat} {es : List (Value × V)} {k : IntKind} {i : Int} (hx : evS (tAt t) x = .mp n) (hi : evS (tAt t) ix = .c (.int k i)) (hn : hAt h n = some (.map es)) (hks : IntKeys k es)
    (v : V) (hv : evS (tAt t) y = v) (es' : List (Value × V)) (he : mapSet k i v es = es') (kk' : hSet h n (.map es') fun h => K .un h) : OpB P (.mapUpdate ty x ix y) t h b K := by
  obtain ⟨l', hk, e⟩ := hSet_of kk'
  exact ⟨mapUpdate_aop ht (K := fun v h' => ∃ l, h' = hAt l ∧ K v l) hty hkt hx hn hks hi ⟨l', by rw [hv, he]; exact e.symm, hk⟩⟩
end
end Go.Proofs.Ytmihhkcbbdpnaaa.Abs
