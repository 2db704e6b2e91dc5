/- The abstract machine, part 11: an operation of the program does in a world what it does on a state. -/
import Derived.Test.YtmihhkcbbdpnaaaA10
namespace Go.Proofs.Ytmihhkcbbdpnaaa.Abs
set_option linter.unusedVariables false
set_option linter.unusedSimpArgs false
section
variable {P : Program} {tab : Tab}

theorem sop_move (tab : Tab) (nm : Nat) (e : Operand → V) (h : Hp) (x : Operand) : sop tab nm e h (.move x) = some (e x, h) := rfl
theorem sop_assign (tab : Tab) (nm : Nat) (e : Operand → V) (h : Hp) (x : Operand) : sop tab nm e h (.assign x) = some (e x, h) := rfl
theorem sop_alloc (tab : Tab) (nm : Nat) (e : Operand → V) (h : Hp) (t : TypeId) : sop tab nm e h (.alloc t) = (tab t).map fun τ => (.p nm τ.size 0 0, upd h nm (some (.rows τ.size [τ.zero.map .c]))) := rfl
theorem sop_box (tab : Tab) (nm : Nat) (e : Operand → V) (h : Hp) (t : TypeId) (x : Operand) : sop tab nm e h (.box t x) = (e x).cells.map fun xs => (.p nm xs.length 0 0, upd h nm (some (.rows xs.length [xs]))) := rfl
theorem sop_build (tab : Tab) (nm : Nat) (e : Operand → V) (h : Hp) (t : TypeId) (parts : Array (Nat × Operand)) : sop tab nm e h (.build t parts) = (buildV tab t (parts.toList.map fun p => (p.1, e p.2))).map fun v => (v, h) := rfl
theorem sop_buildSlice (tab : Tab) (nm : Nat) (e : Operand → V) (h : Hp) (t : TypeId) (len : Nat) (parts : Array (Nat × Operand)) : sop tab nm e h (.buildSlice t len parts) = buildSliceV tab nm h t len (parts.toList.map fun p => (p.1, e p.2)) := rfl
theorem sop_load (tab : Tab) (nm : Nat) (e : Operand → V) (h : Hp) (t : TypeId) (a : Operand) : sop tab nm e h (.load t a) = (loadV tab h t (e a)).map fun v => (v, h) := rfl
theorem sop_store (tab : Tab) (nm : Nat) (e : Operand → V) (h : Hp) (t : TypeId) (a x : Operand) : sop tab nm e h (.store t a x) = (storeV tab h t (e a) (e x)).map fun h' => (.un, h') := rfl
theorem sop_nilCheck (tab : Tab) (nm : Nat) (e : Operand → V) (h : Hp) (x : Operand) : sop tab nm e h (.nilCheck x) = nilCheckV (e x) h := rfl
theorem sop_unOp (tab : Tab) (nm : Nat) (e : Operand → V) (h : Hp) (op : UnOp) (t : TypeId) (x : Operand) : sop tab nm e h (.unOp op t x) = (unV op (e x)).map fun v => (v, h) := rfl
theorem sop_convert (tab : Tab) (nm : Nat) (e : Operand → V) (h : Hp) (src dst : TypeId) (x : Operand) : sop tab nm e h (.convert src dst x) = if (tab src).isSome = true then (convV tab dst (e x)).map fun v => (v, h) else none := rfl
theorem sop_makeInterface (tab : Tab) (nm : Nat) (e : Operand → V) (h : Hp) (t : TypeId) (x : Operand) : sop tab nm e h (.makeInterface t x) = ifaceV tab t (e x) h := rfl
theorem sop_makeFunc (tab : Tab) (nm : Nat) (e : Operand → V) (h : Hp) (fn : Fn) (first cap : Array Operand) : sop tab nm e h (.makeFunc fn first cap) = some (.fn fn (first.toList.map e) (cap.toList.map e), h) := rfl
theorem sop_slice (tab : Tab) (nm : Nat) (e : Operand → V) (h : Hp) (t : TypeId) (x : Operand) (lo hi mx : Option Operand) : sop tab nm e h (.slice t x lo hi mx) = (sliceV tab t (e x) (lo.map e) (hi.map e) (mx.map e)).map fun v => (v, h) := rfl
theorem sop_fieldAddr (tab : Tab) (nm : Nat) (e : Operand → V) (h : Hp) (s : TypeId) (x : Operand) (f : Nat) : sop tab nm e h (.fieldAddr s x f) = (fieldAddrV tab s (e x) f).map fun v => (v, h) := rfl
theorem sop_field (tab : Tab) (nm : Nat) (e : Operand → V) (h : Hp) (s : TypeId) (x : Operand) (f : Nat) : sop tab nm e h (.field s x f) = (fieldValV tab s (e x) f).map fun v => (v, h) := rfl
theorem sop_indexAddr (tab : Tab) (nm : Nat) (e : Operand → V) (h : Hp) (t : TypeId) (x i : Operand) : sop tab nm e h (.indexAddr t x i) = (indexAddrV tab t (e x) (e i)).map fun v => (v, h) := rfl
theorem sop_index (tab : Tab) (nm : Nat) (e : Operand → V) (h : Hp) (t : TypeId) (x i : Operand) : sop tab nm e h (.index t x i) = (indexV tab t (e x) (e i)).map fun v => (v, h) := rfl
theorem sop_extract (tab : Tab) (nm : Nat) (e : Operand → V) (h : Hp) (x : Operand) (i : Nat) : sop tab nm e h (.extract x i) = extractV (e x) i h := rfl
theorem sop_binOp (tab : Tab) (nm : Nat) (e : Operand → V) (h : Hp) (op : BinOp) (t : TypeId) (x y : Operand) (t' : TypeId) : sop tab nm e h (.binOp op t x y t') = binOpV tab op t y (e x) (e y) h := rfl
theorem sop_call (tab : Tab) (nm : Nat) (e : Operand → V) (h : Hp) (c : Call) : sop tab nm e h (.call c) = callV tab nm e h c := rfl

theorem evS_rep {F : Nat → Prop} {ids : Nat → Nat × Nat} {w : World} {M : Nm} {t : Nat → V} {h : Hp} {n : Nat} {a : Act} (hr : RepT F ids w M t h n a) (x : Operand) : RepV (Avoid F h ids) ids w (evS t x) (a.eval x) := by
  cases x with
  | tmp i => exact hr.tmps i
  | const v => exact cV_rep _ _ _ v
  | global g => exact .un _
  | func f => exact .fn _ [] [] #[] #[] rfl rfl (by simp) (by simp)

theorem evS_below {m : Nm} {t : Nat → V} (h : ∀ i, (t i).Below m) (x : Operand) : (evS t x).Below m := by
  cases x with
  | tmp i => exact h i
  | const v => exact cV_below m v
  | global g => exact .un
  | func f => exact .fn _ _ _ (by simp) (by simp)

theorem s_move (ht : TabOk P tab) {F : Nat → Prop} {ids : Nat → Nat × Nat} {w : World} {h h' : Hp} {nx : Nm} {nm : Nat} (hh : RepH F ids w h nx) (hn : ¬ nx nm) (e : Operand → V) (ρ : Operand → Value)
    (he : ∀ x, RepV (Avoid F h ids) ids w (e x) (ρ x)) (hb : ∀ x, (e x).Below nx) (hρ : ∀ v, ρ (.const v) = v) (o : Oper) (x : Operand) (ho : o.op = .move x) {v : V} (hs : sop tab nm e h (.move x) = some (v, h')) :
    OpOk F ids w h nx ((execOp ρ o).run P w) v h' (nx.add nm) := by
  have hnx : nx.le (nx.add nm) := Nm.le_add _ _
  rw [sop_move] at hs
  simp only [Option.some.injEq, Prod.mk.injEq] at hs
  obtain ⟨rfl, rfl⟩ := hs
  exact OpOk.still hh hnx (by simp only [execOp, ho]; rfl) (he x) (hb x)

theorem s_assign (ht : TabOk P tab) {F : Nat → Prop} {ids : Nat → Nat × Nat} {w : World} {h h' : Hp} {nx : Nm} {nm : Nat} (hh : RepH F ids w h nx) (hn : ¬ nx nm) (e : Operand → V) (ρ : Operand → Value)
    (he : ∀ x, RepV (Avoid F h ids) ids w (e x) (ρ x)) (hb : ∀ x, (e x).Below nx) (hρ : ∀ v, ρ (.const v) = v) (o : Oper) (x : Operand) (ho : o.op = .assign x) {v : V} (hs : sop tab nm e h (.assign x) = some (v, h')) :
    OpOk F ids w h nx ((execOp ρ o).run P w) v h' (nx.add nm) := by
  have hnx : nx.le (nx.add nm) := Nm.le_add _ _
  rw [sop_assign] at hs
  simp only [Option.some.injEq, Prod.mk.injEq] at hs
  obtain ⟨rfl, rfl⟩ := hs
  exact OpOk.still hh hnx (by simp only [execOp, ho]; rfl) (he x) (hb x)

theorem s_alloc (ht : TabOk P tab) {F : Nat → Prop} {ids : Nat → Nat × Nat} {w : World} {h h' : Hp} {nx : Nm} {nm : Nat} (hh : RepH F ids w h nx) (hn : ¬ nx nm) (e : Operand → V) (ρ : Operand → Value)
    (he : ∀ x, RepV (Avoid F h ids) ids w (e x) (ρ x)) (hb : ∀ x, (e x).Below nx) (hρ : ∀ v, ρ (.const v) = v) (o : Oper) (t : TypeId) (ho : o.op = .alloc t) {v : V} (hs : sop tab nm e h (.alloc t) = some (v, h')) :
    OpOk F ids w h nx ((execOp ρ o).run P w) v h' (nx.add nm) := by
  have hnx : nx.le (nx.add nm) := Nm.le_add _ _
  rw [sop_alloc, Option.map_eq_some_iff] at hs
  obtain ⟨τ, hτ, he'⟩ := hs
  simp only [Prod.mk.injEq] at he'
  obtain ⟨rfl, rfl⟩ := he'
  simp only [execOp, ho]
  exact alloc_sound ht hh hn hτ

theorem s_box (ht : TabOk P tab) {F : Nat → Prop} {ids : Nat → Nat × Nat} {w : World} {h h' : Hp} {nx : Nm} {nm : Nat} (hh : RepH F ids w h nx) (hn : ¬ nx nm) (e : Operand → V) (ρ : Operand → Value)
    (he : ∀ x, RepV (Avoid F h ids) ids w (e x) (ρ x)) (hb : ∀ x, (e x).Below nx) (hρ : ∀ v, ρ (.const v) = v) (o : Oper) (t : TypeId) (x : Operand) (ho : o.op = .box t x) {v : V} (hs : sop tab nm e h (.box t x) = some (v, h')) :
    OpOk F ids w h nx ((execOp ρ o).run P w) v h' (nx.add nm) := by
  have hnx : nx.le (nx.add nm) := Nm.le_add _ _
  rw [sop_box, Option.map_eq_some_iff] at hs
  obtain ⟨xs, hxs, he'⟩ := hs
  simp only [Prod.mk.injEq] at he'
  obtain ⟨rfl, rfl⟩ := he'
  simp only [execOp, ho]
  exact box_sound hh hn (he x) (hb x) hxs

theorem s_build (ht : TabOk P tab) {F : Nat → Prop} {ids : Nat → Nat × Nat} {w : World} {h h' : Hp} {nx : Nm} {nm : Nat} (hh : RepH F ids w h nx) (hn : ¬ nx nm) (e : Operand → V) (ρ : Operand → Value)
    (he : ∀ x, RepV (Avoid F h ids) ids w (e x) (ρ x)) (hb : ∀ x, (e x).Below nx) (hρ : ∀ v, ρ (.const v) = v) (o : Oper) (t : TypeId) (parts : Array (Nat × Operand)) (ho : o.op = .build t parts) {v : V} (hs : sop tab nm e h (.build t parts) = some (v, h')) :
    OpOk F ids w h nx ((execOp ρ o).run P w) v h' (nx.add nm) := by
  have hnx : nx.le (nx.add nm) := Nm.le_add _ _
  rw [sop_build, Option.map_eq_some_iff] at hs
  obtain ⟨u, hu, he'⟩ := hs
  simp only [Prod.mk.injEq] at he'
  obtain ⟨rfl, rfl⟩ := he'
  obtain ⟨val, p1, p2, p3⟩ := build_sound (P := P) ht (vparts := parts.map fun (i, x) => (i, ρ x)) (by
    rw [Array.toList_map]
    exact all2_map _ _ (fun p => ⟨rfl, he p.2⟩) parts.toList) hu (fun p hp => by
      simp only [List.mem_map] at hp
      obtain ⟨q, _, rfl⟩ := hp
      exact hb q.2)
  exact OpOk.still hh hnx (by simp only [execOp, ho, Sem.run_bind, p1]; rfl) p2 p3

theorem s_buildSlice (ht : TabOk P tab) {F : Nat → Prop} {ids : Nat → Nat × Nat} {w : World} {h h' : Hp} {nx : Nm} {nm : Nat} (hh : RepH F ids w h nx) (hn : ¬ nx nm) (e : Operand → V) (ρ : Operand → Value)
    (he : ∀ x, RepV (Avoid F h ids) ids w (e x) (ρ x)) (hb : ∀ x, (e x).Below nx) (hρ : ∀ v, ρ (.const v) = v) (o : Oper) (t : TypeId) (len : Nat) (parts : Array (Nat × Operand)) (ho : o.op = .buildSlice t len parts) {v : V} (hs : sop tab nm e h (.buildSlice t len parts) = some (v, h')) :
    OpOk F ids w h nx ((execOp ρ o).run P w) v h' (nx.add nm) := by
  have hnx : nx.le (nx.add nm) := Nm.le_add _ _
  rw [sop_buildSlice] at hs
  have hp : All2 (fun p q => p.1 = q.1 ∧ RepV (Avoid F h ids) ids w p.2 q.2) (parts.toList.map fun p => (p.1, e p.2)) (parts.map fun (i, x) => (i, ρ x)).toList := by
    rw [Array.toList_map]
    exact all2_map _ _ (fun p => ⟨rfl, he p.2⟩) parts.toList
  have hbel : ∀ p ∈ parts.toList.map (fun p => (p.1, e p.2)), p.2.Below nx := by
    intro p hp
    simp only [List.mem_map] at hp
    obtain ⟨q, _, rfl⟩ := hp
    exact hb q.2
  have q := buildSlice_sound (P := P) ht hh hn hp hbel hs
  rw [show execOp ρ o = (do pure (Next.value (← Instr.buildSlice t len (parts.map fun (i, x) => (i, ρ x)))) : Sem Next) from by unfold execOp; rw [ho]]
  exact q

theorem s_load (ht : TabOk P tab) {F : Nat → Prop} {ids : Nat → Nat × Nat} {w : World} {h h' : Hp} {nx : Nm} {nm : Nat} (hh : RepH F ids w h nx) (hn : ¬ nx nm) (e : Operand → V) (ρ : Operand → Value)
    (he : ∀ x, RepV (Avoid F h ids) ids w (e x) (ρ x)) (hb : ∀ x, (e x).Below nx) (hρ : ∀ v, ρ (.const v) = v) (o : Oper) (t : TypeId) (a : Operand) (ho : o.op = .load t a) {v : V} (hs : sop tab nm e h (.load t a) = some (v, h')) :
    OpOk F ids w h nx ((execOp ρ o).run P w) v h' (nx.add nm) := by
  have hnx : nx.le (nx.add nm) := Nm.le_add _ _
  rw [sop_load, Option.map_eq_some_iff] at hs
  obtain ⟨u, hu, he'⟩ := hs
  simp only [Prod.mk.injEq] at he'
  obtain ⟨rfl, rfl⟩ := he'
  obtain ⟨val, p1, p2, p3⟩ := loadV_sound (P := P) ht hh (he a) hu
  exact OpOk.still hh hnx (by simp only [execOp, ho, Sem.run_bind, p1]; rfl) p2 p3

theorem s_store (ht : TabOk P tab) {F : Nat → Prop} {ids : Nat → Nat × Nat} {w : World} {h h' : Hp} {nx : Nm} {nm : Nat} (hh : RepH F ids w h nx) (hn : ¬ nx nm) (e : Operand → V) (ρ : Operand → Value)
    (he : ∀ x, RepV (Avoid F h ids) ids w (e x) (ρ x)) (hb : ∀ x, (e x).Below nx) (hρ : ∀ v, ρ (.const v) = v) (o : Oper) (t : TypeId) (a x : Operand) (ho : o.op = .store t a x) {v : V} (hs : sop tab nm e h (.store t a x) = some (v, h')) :
    OpOk F ids w h nx ((execOp ρ o).run P w) v h' (nx.add nm) := by
  have hnx : nx.le (nx.add nm) := Nm.le_add _ _
  rw [sop_store, Option.map_eq_some_iff] at hs
  obtain ⟨u, hu, he'⟩ := hs
  simp only [Prod.mk.injEq] at he'
  obtain ⟨rfl, rfl⟩ := he'
  obtain ⟨w', p1, p2⟩ := storeV_sound (P := P) ht hh (he a) (he x) (hb x) hu
  exact ⟨undef, w', ids, .inr ⟨by simp only [execOp, ho, Sem.run_bind, p1]; rfl, rfl⟩, p2.trans (Chg.skip p2.heap hnx), .un _, .un⟩

theorem s_nilCheck (ht : TabOk P tab) {F : Nat → Prop} {ids : Nat → Nat × Nat} {w : World} {h h' : Hp} {nx : Nm} {nm : Nat} (hh : RepH F ids w h nx) (hn : ¬ nx nm) (e : Operand → V) (ρ : Operand → Value)
    (he : ∀ x, RepV (Avoid F h ids) ids w (e x) (ρ x)) (hb : ∀ x, (e x).Below nx) (hρ : ∀ v, ρ (.const v) = v) (o : Oper) (x : Operand) (ho : o.op = .nilCheck x) {v : V} (hs : sop tab nm e h (.nilCheck x) = some (v, h')) :
    OpOk F ids w h nx ((execOp ρ o).run P w) v h' (nx.add nm) := by
  have hnx : nx.le (nx.add nm) := Nm.le_add _ _
  rw [sop_nilCheck] at hs
  have hx := he x
  have hbx := hb x
  generalize hv : e x = vx at hs hx hbx
  generalize hq : ρ x = qx at hx
  unfold nilCheckV at hs
  split at hs
  case h_5 => cases hs
  all_goals
    cases hs
    refine OpOk.still (val := qx) hh hnx ?_ hx hbx
    simp only [execOp, ho, hq]
    cases hx
    rfl

theorem s_unOp (ht : TabOk P tab) {F : Nat → Prop} {ids : Nat → Nat × Nat} {w : World} {h h' : Hp} {nx : Nm} {nm : Nat} (hh : RepH F ids w h nx) (hn : ¬ nx nm) (e : Operand → V) (ρ : Operand → Value)
    (he : ∀ x, RepV (Avoid F h ids) ids w (e x) (ρ x)) (hb : ∀ x, (e x).Below nx) (hρ : ∀ v, ρ (.const v) = v) (o : Oper) (op : UnOp) (t : TypeId) (x : Operand) (ho : o.op = .unOp op t x) {v : V} (hs : sop tab nm e h (.unOp op t x) = some (v, h')) :
    OpOk F ids w h nx ((execOp ρ o).run P w) v h' (nx.add nm) := by
  have hnx : nx.le (nx.add nm) := Nm.le_add _ _
  rw [sop_unOp, Option.map_eq_some_iff] at hs
  obtain ⟨u, hu, he'⟩ := hs
  simp only [Prod.mk.injEq] at he'
  obtain ⟨rfl, rfl⟩ := he'
  obtain ⟨val, rfl, p1⟩ := unV_sound (P := P) (w := w) (he x) hu
  exact OpOk.still (val := val) hh hnx (by simp only [execOp, ho, Sem.run_bind, p1]; rfl) (.c _) (.c _)

theorem s_convert (ht : TabOk P tab) {F : Nat → Prop} {ids : Nat → Nat × Nat} {w : World} {h h' : Hp} {nx : Nm} {nm : Nat} (hh : RepH F ids w h nx) (hn : ¬ nx nm) (e : Operand → V) (ρ : Operand → Value)
    (he : ∀ x, RepV (Avoid F h ids) ids w (e x) (ρ x)) (hb : ∀ x, (e x).Below nx) (hρ : ∀ v, ρ (.const v) = v) (o : Oper) (src dst : TypeId) (x : Operand) (ho : o.op = .convert src dst x) {v : V} (hs : sop tab nm e h (.convert src dst x) = some (v, h')) :
    OpOk F ids w h nx ((execOp ρ o).run P w) v h' (nx.add nm) := by
  have hnx : nx.le (nx.add nm) := Nm.le_add _ _
  rw [sop_convert] at hs
  split at hs
  case isFalse => cases hs
  next hsrc =>
  rw [Option.map_eq_some_iff] at hs
  obtain ⟨u, hu, he'⟩ := hs
  simp only [Prod.mk.injEq] at he'
  obtain ⟨rfl, rfl⟩ := he'
  obtain ⟨val, rfl, p1⟩ := convV_sound (P := P) (w := w) ht (he x) hsrc hu
  exact OpOk.still (val := val) hh hnx (by simp only [execOp, ho, Sem.run_bind, p1]; rfl) (.c _) (.c _)

theorem s_makeInterface (ht : TabOk P tab) {F : Nat → Prop} {ids : Nat → Nat × Nat} {w : World} {h h' : Hp} {nx : Nm} {nm : Nat} (hh : RepH F ids w h nx) (hn : ¬ nx nm) (e : Operand → V) (ρ : Operand → Value)
    (he : ∀ x, RepV (Avoid F h ids) ids w (e x) (ρ x)) (hb : ∀ x, (e x).Below nx) (hρ : ∀ v, ρ (.const v) = v) (o : Oper) (t : TypeId) (x : Operand) (ho : o.op = .makeInterface t x) {v : V} (hs : sop tab nm e h (.makeInterface t x) = some (v, h')) :
    OpOk F ids w h nx ((execOp ρ o).run P w) v h' (nx.add nm) := by
  have hnx : nx.le (nx.add nm) := Nm.le_add _ _
  rw [sop_makeInterface] at hs
  unfold ifaceV at hs
  split at hs
  case h_1 => cases hs
  case h_2 => cases hs
  next hk1 hk2 =>
  simp only [Option.some.injEq, Prod.mk.injEq] at hs
  obtain ⟨rfl, rfl⟩ := hs
  refine OpOk.still (val := .iface t (ρ x)) hh hnx ?_ (.ifc _ _ _ (he x)) (.ifc _ _ (hb x))
  cases hk : (tab t).map Ty.kind with
  | none => exact absurd hk hk1
  | some k =>
    obtain ⟨d, g, h1, h2, hf⟩ := kind_fits ht hk
    have hne : ∀ ms, d ≠ .interface ms := by
      rintro ms rfl
      cases hf
      · next hl => simp at hl
      · exact hk2 hk
    have : (Instr.makeInterface t (ρ x)).run P w = .ok (.iface t (ρ x)) w := by
      simp only [Instr.makeInterface, Sem.run_bind, h1, Result.andThen_ok]
      cases d <;> first | rfl | exact absurd rfl (hne _)
    simp only [execOp, ho, Sem.run_bind, this]; rfl

theorem s_makeFunc (ht : TabOk P tab) {F : Nat → Prop} {ids : Nat → Nat × Nat} {w : World} {h h' : Hp} {nx : Nm} {nm : Nat} (hh : RepH F ids w h nx) (hn : ¬ nx nm) (e : Operand → V) (ρ : Operand → Value)
    (he : ∀ x, RepV (Avoid F h ids) ids w (e x) (ρ x)) (hb : ∀ x, (e x).Below nx) (hρ : ∀ v, ρ (.const v) = v) (o : Oper) (fn : Fn) (first cap : Array Operand) (ho : o.op = .makeFunc fn first cap) {v : V} (hs : sop tab nm e h (.makeFunc fn first cap) = some (v, h')) :
    OpOk F ids w h nx ((execOp ρ o).run P w) v h' (nx.add nm) := by
  have hnx : nx.le (nx.add nm) := Nm.le_add _ _
  rw [sop_makeFunc] at hs
  simp only [Option.some.injEq, Prod.mk.injEq] at hs
  obtain ⟨rfl, rfl⟩ := hs
  have hrep : ∀ (l : Array Operand) (i : Nat) (x : V) (u : Value), (l.toList.map e)[i]? = some x → (l.map ρ)[i]? = some u → RepV (Avoid F h ids) ids w x u := by
    intro l i x u hx hu
    rw [List.getElem?_map, Option.map_eq_some_iff] at hx
    obtain ⟨y, hy, rfl⟩ := hx
    rw [Array.getElem?_map] at hu
    rw [Array.getElem?_toList] at hy
    rw [hy] at hu
    cases hu
    exact he y
  have hbel : ∀ (l : Array Operand), ∀ x ∈ l.toList.map e, x.Below nx := by
    intro l x hx
    simp only [List.mem_map] at hx
    obtain ⟨y, _, rfl⟩ := hx
    exact hb y
  exact OpOk.still (val := .func fn (first.map ρ) (cap.map ρ)) hh hnx (by simp only [execOp, ho]; rfl)
    (.fn _ _ _ _ _ (by simp) (by simp) (hrep first) (hrep cap)) (.fn _ _ _ (hbel first) (hbel cap))

theorem s_slice (ht : TabOk P tab) {F : Nat → Prop} {ids : Nat → Nat × Nat} {w : World} {h h' : Hp} {nx : Nm} {nm : Nat} (hh : RepH F ids w h nx) (hn : ¬ nx nm) (e : Operand → V) (ρ : Operand → Value)
    (he : ∀ x, RepV (Avoid F h ids) ids w (e x) (ρ x)) (hb : ∀ x, (e x).Below nx) (hρ : ∀ v, ρ (.const v) = v) (o : Oper) (t : TypeId) (x : Operand) (lo hi mx : Option Operand) (ho : o.op = .slice t x lo hi mx) {v : V} (hs : sop tab nm e h (.slice t x lo hi mx) = some (v, h')) :
    OpOk F ids w h nx ((execOp ρ o).run P w) v h' (nx.add nm) := by
  have hnx : nx.le (nx.add nm) := Nm.le_add _ _
  rw [sop_slice, Option.map_eq_some_iff] at hs
  obtain ⟨u, hu, he'⟩ := hs
  simp only [Prod.mk.injEq] at he'
  obtain ⟨rfl, rfl⟩ := he'
  have hopt : ∀ (o : Option Operand) (x : V) (v : Value), o.map e = some x → o.map ρ = some v → RepV (Avoid F h ids) ids w x v := by
    intro o x v h1 h2
    cases o with
    | none => cases h1
    | some y => cases h1; cases h2; exact he y
  obtain ⟨val, p1, p2, p3⟩ := slice_sound (P := P) ht (vlo := lo.map ρ) (vhi := hi.map ρ) (vmx := mx.map ρ) (he x) (hopt lo) (hopt hi) (hopt mx) (by simp) (by simp) (by simp) (hb x) hu
  exact OpOk.still hh hnx (by simp only [execOp, ho, Sem.run_bind, p1]; rfl) p2 p3

theorem s_fieldAddr (ht : TabOk P tab) {F : Nat → Prop} {ids : Nat → Nat × Nat} {w : World} {h h' : Hp} {nx : Nm} {nm : Nat} (hh : RepH F ids w h nx) (hn : ¬ nx nm) (e : Operand → V) (ρ : Operand → Value)
    (he : ∀ x, RepV (Avoid F h ids) ids w (e x) (ρ x)) (hb : ∀ x, (e x).Below nx) (hρ : ∀ v, ρ (.const v) = v) (o : Oper) (s : TypeId) (x : Operand) (f : Nat) (ho : o.op = .fieldAddr s x f) {v : V} (hs : sop tab nm e h (.fieldAddr s x f) = some (v, h')) :
    OpOk F ids w h nx ((execOp ρ o).run P w) v h' (nx.add nm) := by
  have hnx : nx.le (nx.add nm) := Nm.le_add _ _
  rw [sop_fieldAddr, Option.map_eq_some_iff] at hs
  obtain ⟨u, hu, he'⟩ := hs
  simp only [Prod.mk.injEq] at he'
  obtain ⟨rfl, rfl⟩ := he'
  obtain ⟨val, p1, p2, p3⟩ := fieldAddr_sound (P := P) ht (he x) hu (hb x)
  exact OpOk.still hh hnx (by simp only [execOp, ho, Sem.run_bind, p1]; rfl) p2 p3

theorem s_field (ht : TabOk P tab) {F : Nat → Prop} {ids : Nat → Nat × Nat} {w : World} {h h' : Hp} {nx : Nm} {nm : Nat} (hh : RepH F ids w h nx) (hn : ¬ nx nm) (e : Operand → V) (ρ : Operand → Value)
    (he : ∀ x, RepV (Avoid F h ids) ids w (e x) (ρ x)) (hb : ∀ x, (e x).Below nx) (hρ : ∀ v, ρ (.const v) = v) (o : Oper) (s : TypeId) (x : Operand) (f : Nat) (ho : o.op = .field s x f) {v : V} (hs : sop tab nm e h (.field s x f) = some (v, h')) :
    OpOk F ids w h nx ((execOp ρ o).run P w) v h' (nx.add nm) := by
  have hnx : nx.le (nx.add nm) := Nm.le_add _ _
  rw [sop_field, Option.map_eq_some_iff] at hs
  obtain ⟨u, hu, he'⟩ := hs
  simp only [Prod.mk.injEq] at he'
  obtain ⟨rfl, rfl⟩ := he'
  obtain ⟨val, p1, p2, p3⟩ := fieldVal_sound (P := P) ht (he x) hu (hb x)
  exact OpOk.still hh hnx (by simp only [execOp, ho, Sem.run_bind, p1]; rfl) p2 p3

theorem s_indexAddr (ht : TabOk P tab) {F : Nat → Prop} {ids : Nat → Nat × Nat} {w : World} {h h' : Hp} {nx : Nm} {nm : Nat} (hh : RepH F ids w h nx) (hn : ¬ nx nm) (e : Operand → V) (ρ : Operand → Value)
    (he : ∀ x, RepV (Avoid F h ids) ids w (e x) (ρ x)) (hb : ∀ x, (e x).Below nx) (hρ : ∀ v, ρ (.const v) = v) (o : Oper) (t : TypeId) (x i : Operand) (ho : o.op = .indexAddr t x i) {v : V} (hs : sop tab nm e h (.indexAddr t x i) = some (v, h')) :
    OpOk F ids w h nx ((execOp ρ o).run P w) v h' (nx.add nm) := by
  have hnx : nx.le (nx.add nm) := Nm.le_add _ _
  rw [sop_indexAddr, Option.map_eq_some_iff] at hs
  obtain ⟨u, hu, he'⟩ := hs
  simp only [Prod.mk.injEq] at he'
  obtain ⟨rfl, rfl⟩ := he'
  obtain ⟨val, p1, p2, p3⟩ := indexAddr_sound (P := P) ht (he x) (he i) hu (hb x)
  exact OpOk.still hh hnx (by simp only [execOp, ho, Sem.run_bind, p1]; rfl) p2 p3

theorem s_index (ht : TabOk P tab) {F : Nat → Prop} {ids : Nat → Nat × Nat} {w : World} {h h' : Hp} {nx : Nm} {nm : Nat} (hh : RepH F ids w h nx) (hn : ¬ nx nm) (e : Operand → V) (ρ : Operand → Value)
    (he : ∀ x, RepV (Avoid F h ids) ids w (e x) (ρ x)) (hb : ∀ x, (e x).Below nx) (hρ : ∀ v, ρ (.const v) = v) (o : Oper) (t : TypeId) (x i : Operand) (ho : o.op = .index t x i) {v : V} (hs : sop tab nm e h (.index t x i) = some (v, h')) :
    OpOk F ids w h nx ((execOp ρ o).run P w) v h' (nx.add nm) := by
  have hnx : nx.le (nx.add nm) := Nm.le_add _ _
  rw [sop_index, Option.map_eq_some_iff] at hs
  obtain ⟨u, hu, he'⟩ := hs
  simp only [Prod.mk.injEq] at he'
  obtain ⟨rfl, rfl⟩ := he'
  obtain ⟨val, p1, p2, p3⟩ := index_sound (P := P) ht (he x) (he i) hu (hb x)
  exact OpOk.still hh hnx (by simp only [execOp, ho, Sem.run_bind, p1]; rfl) p2 p3

theorem s_extract (ht : TabOk P tab) {F : Nat → Prop} {ids : Nat → Nat × Nat} {w : World} {h h' : Hp} {nx : Nm} {nm : Nat} (hh : RepH F ids w h nx) (hn : ¬ nx nm) (e : Operand → V) (ρ : Operand → Value)
    (he : ∀ x, RepV (Avoid F h ids) ids w (e x) (ρ x)) (hb : ∀ x, (e x).Below nx) (hρ : ∀ v, ρ (.const v) = v) (o : Oper) (x : Operand) (i : Nat) (ho : o.op = .extract x i) {v : V} (hs : sop tab nm e h (.extract x i) = some (v, h')) :
    OpOk F ids w h nx ((execOp ρ o).run P w) v h' (nx.add nm) := by
  have hnx : nx.le (nx.add nm) := Nm.le_add _ _
  rw [sop_extract] at hs
  have hx := he x
  have hbx := hb x
  generalize hv : e x = vx at hs hx hbx
  generalize hq : ρ x = qx at hx
  unfold extractV at hs
  split at hs
  case h_2 => cases hs
  next xs =>
  rw [Option.map_eq_some_iff] at hs
  obtain ⟨u, hu, he'⟩ := hs
  simp only [Prod.mk.injEq] at he'
  obtain ⟨rfl, rfl⟩ := he'
  cases hx with
  | tup _ arr hsz hrr =>
    cases hbx with
    | tup _ hbx =>
      have hlt := (List.getElem?_eq_some_iff.1 hu).1
      have hval : arr[i]? = some arr[i] := by simp [hsz, hlt]
      exact OpOk.still (val := arr[i]) hh hnx (by simp only [execOp, ho, hq, Instr.extract, hval]; rfl) (hrr i _ _ hu hval) (hbx _ (List.mem_of_getElem? hu))

theorem s_binOp (ht : TabOk P tab) {F : Nat → Prop} {ids : Nat → Nat × Nat} {w : World} {h h' : Hp} {nx : Nm} {nm : Nat} (hh : RepH F ids w h nx) (hn : ¬ nx nm) (e : Operand → V) (ρ : Operand → Value)
    (he : ∀ x, RepV (Avoid F h ids) ids w (e x) (ρ x)) (hb : ∀ x, (e x).Below nx) (hρ : ∀ v, ρ (.const v) = v) (o : Oper) (op : BinOp) (t : TypeId) (x y : Operand) (t' : TypeId) (ho : o.op = .binOp op t x y t') {v : V} (hs : sop tab nm e h (.binOp op t x y t') = some (v, h')) :
    OpOk F ids w h nx ((execOp ρ o).run P w) v h' (nx.add nm) := by
  have hnx : nx.le (nx.add nm) := Nm.le_add _ _
  rw [sop_binOp] at hs
  unfold binOpV at hs
  split at hs
  · next hn' =>
    rw [Option.map_eq_some_iff] at hs
    obtain ⟨b, hb', he'⟩ := hs
    simp only [Prod.mk.injEq] at he'
    obtain ⟨rfl, rfl⟩ := he'
    cases y with
    | const c =>
      have p := (isNil_sound (P := P) (w := w) ht (he x) hn' hb' x).1
      refine OpOk.still (val := .bool b) hh hnx ?_ (.c _) (.c _)
      simp only [execOp, ho, Sem.run_bind, hρ] at p ⊢
      rw [p]; rfl
    | _ => simp [nilOp] at hn'
  · next hn' =>
    rw [Option.map_eq_some_iff] at hs
    obtain ⟨b, hb', he'⟩ := hs
    simp only [Prod.mk.injEq] at he'
    obtain ⟨rfl, rfl⟩ := he'
    cases y with
    | const c =>
      have p := (isNil_sound (P := P) (w := w) ht (he x) hn' hb' x).2
      refine OpOk.still (val := .bool (!b)) hh hnx ?_ (.c _) (.c _)
      simp only [execOp, ho, Sem.run_bind, hρ] at p ⊢
      rw [p]; rfl
    | _ => simp [nilOp] at hn'
  · rw [Option.map_eq_some_iff] at hs
    obtain ⟨u, hu, he'⟩ := hs
    simp only [Prod.mk.injEq] at he'
    obtain ⟨rfl, rfl⟩ := he'
    obtain ⟨val, rfl, p1⟩ := binV_sound (P := P) (w := w) ht (he x) (he y) hu x y
    refine OpOk.still (val := val) hh hnx ?_ (.c _) (.c _)
    simp only [execOp, ho, Sem.run_bind] at p1 ⊢
    rw [p1]; rfl

end
end Go.Proofs.Ytmihhkcbbdpnaaa.Abs
