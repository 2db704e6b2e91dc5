/- The abstract machine, part 26: slices whose room is known, and cuts that leave no room. -/
import Derived.Test.YtmihhkcbbdpnaaaC10
namespace Go.Proofs.Ytmihhkcbbdpnaaa.Abs
set_option linter.unusedVariables false
set_option linter.unusedSimpArgs false
section
variable {P : Program} {tab : Tab}

def unSx (x : V) : V :=
  match x with
  | .sx n sz off len _ => .sl n sz off len
  | x => x
theorem unSx_rep {A : Nat → Prop} {ids : Nat → Nat × Nat} {w : World} {x : V} {v : Value} (h : RepV A ids w x v) : RepV A ids w (unSx x) v := by
  cases h with
  | sx n sz off len cap ad hl hc => exact .sl _ _ _ _ cap ad hl hc
  | un => exact .un _
  | c => exact .c _
  | lst _ _ _ _ h hcl => exact .lst _ _ _ _ h hcl
  | sl _ _ _ _ _ _ hl hc => exact .sl _ _ _ _ _ _ hl hc
  | ac0 => exact .ac0 _ _ _
  | ac1 _ _ _ _ h0 h => exact .ac1 _ _ _ _ h0 h
  | p => exact .p ..
  | q _ _ _ _ _ h1 h2 h3 h4 => exact .q _ _ _ _ _ h1 h2 h3 h4
  | agg _ _ hs h => exact .agg _ _ hs h
  | tup _ _ hs h => exact .tup _ _ hs h
  | fn _ _ _ _ _ h1 h2 h3 h4 => exact .fn _ _ _ _ _ h1 h2 h3 h4
  | ifc _ _ _ h => exact .ifc _ _ _ h
  | mp => exact .mp ..
theorem unSx_below {m : Nm} {x : V} (h : x.Below m) : (unSx x).Below m := by
  cases h with
  | sx n sz off len cap h => exact .sl _ _ _ _ h
  | un => exact .un
  | c => exact .c _
  | lst => exact .lst ..
  | sl _ _ _ _ h => exact .sl _ _ _ _ h
  | ac _ _ _ h => exact .ac _ _ _ h
  | p _ _ _ _ h => exact .p _ _ _ _ h
  | q => exact .q ..
  | agg _ h => exact .agg _ h
  | tup _ h => exact .tup _ h
  | fn _ _ _ h1 h2 => exact .fn _ _ _ h1 h2
  | ifc _ _ h => exact .ifc _ _ h
  | mp _ h => exact .mp _ h
theorem tAt_map : ∀ (t : List V) (i : Nat), tAt (t.map unSx) i = unSx (tAt t i)
  | [], i => rfl
  | x :: t, 0 => rfl
  | x :: t, i + 1 => tAt_map t i
theorem evS_unSx (t : List V) (x : Operand) : evS (tAt (t.map unSx)) x = unSx (evS (tAt t) x) := by
  cases x with
  | tmp i => exact tAt_map t i
  | const v => cases v <;> rfl
  | _ => rfl
/-- an operation of the machine, on operands that say less -/
theorem AOp.of_sop (ht : TabOk P tab) {M : Nm} {nm : Nat} (hfresh : ¬ M nm) {op : Op} {e e0 : Operand → V} {h h' : Hp} {K : V → Hp → Prop} {v : V} (hs : sop tab nm e h op = some (v, h'))
    (hw : ∀ x ∈ op.operands.toList, (∀ (A : Nat → Prop) (ids : Nat → Nat × Nat) (w : World) (u : Value), RepV A ids w (e0 x) u → RepV A ids w (e x) u) ∧ ((e0 x).Below M → (e x).Below M)) (hK : K v h') : AOp P op e0 h M nm K := by
  classical
  refine AOp.ok fun F ids w a o ho hh h1 h2 => ⟨v, h', hK, ?_⟩
  subst ho
  have h3 : ∀ x ∈ o.op.operands.toList, (if x ∈ o.op.operands.toList then e x else V.un) = e x := fun x hx => if_pos hx
  have hs2 : sop tab nm (fun x => if x ∈ o.op.operands.toList then e x else .un) h o.op = some (v, h') := by rw [(sop_ev (tab := tab) h3).1]; exact hs
  refine sop_sound ht hh hfresh _ a.eval (fun x => ?_) (fun x => ?_) (fun _ => rfl) o hs2
  · by_cases hx : x ∈ o.op.operands.toList
    · simp only [hx, if_true]; exact (hw x hx).1 _ _ _ _ (h1 x hx)
    · simp only [hx, if_false]; exact .un _
  · by_cases hx : x ∈ o.op.operands.toList
    · simp only [hx, if_true]; exact (hw x hx).2 (h2 x hx)
    · simp only [hx, if_false]; exact .un
/-- the room is forgotten -/
theorem asSl (ht : TabOk P tab) {op : Op} {t : List V} {h : List (Nat × B)} {b : Nat} {K : V → List (Nat × B) → Prop} (k : opK tab b (t.map unSx) h op K) : OpB P op t h b K := by
  obtain ⟨v, l, hs, hk⟩ := opK_of k
  exact ⟨AOp.of_sop (M := Lt b) ht (Nat.lt_irrefl b) hs (fun x _ => by rw [evS_unSx]; exact ⟨fun _ _ _ _ hr => unSx_rep hr, fun hb => unSx_below hb⟩) ⟨l, rfl, hk⟩⟩

/-! ### cuts -/
def atO (e : Operand → V) (o : Option Operand) (d n : Nat) : Prop :=
  match o with
  | none => n = d
  | some x => ∃ k, e x = .c (.int k (n : Int))
theorem sliceBounds_run {w : World} {len cap a b : Nat} {vlo vhi : Option Value} (hlo : (vlo = none ∧ a = 0) ∨ ∃ k, vlo = some (.int k (a : Int))) (hhi : (vhi = none ∧ b = len) ∨ ∃ k, vhi = some (.int k (b : Int))) (h1 : a ≤ b) (h2 : b ≤ cap) :
    (Instr.sliceBounds true len cap vlo vhi none).run P w = .ok (a, b, cap) w := by
  rcases hlo with ⟨rfl, rfl⟩ | ⟨k, rfl⟩ <;> rcases hhi with ⟨rfl, rfl⟩ | ⟨k', rfl⟩ <;> simp [Instr.sliceBounds, Instr.sliceBound, asIntOf, h1, h2]
theorem sliceBounds_run3 {w : World} {len cap a b : Nat} {vlo vhi vmx : Option Value} (hlo : (vlo = none ∧ a = 0) ∨ ∃ k, vlo = some (.int k (a : Int))) (hhi : ∃ k, vhi = some (.int k (b : Int))) (hmx : ∃ k, vmx = some (.int k (b : Int))) (h1 : a ≤ b) (h2 : b ≤ cap) :
    (Instr.sliceBounds true len cap vlo vhi vmx).run P w = .ok (a, b, b) w := by
  obtain ⟨k', rfl⟩ := hhi
  obtain ⟨k2, rfl⟩ := hmx
  rcases hlo with ⟨rfl, rfl⟩ | ⟨k, rfl⟩ <;> simp [Instr.sliceBounds, Instr.sliceBound, asIntOf, h1, h2]
/-- what a slice that lies in a named block may be -/
inductive InBlk (n sz : Nat) : V → Nat → Nat → Option Nat → Prop
  | sl (off len : Nat) : InBlk n sz (.sl n sz off len) off len none
  | ac (len : Nat) : InBlk n sz (.ac n sz len) 0 len none
  | sx (off len cap : Nat) : InBlk n sz (.sx n sz off len cap) off len (some cap)
theorem InBlk.rep {n sz off len : Nat} {c : Option Nat} {x : V} (hx : InBlk n sz x off len c) {A : Nat → Prop} {ids : Nat → Nat × Nat} {w : World} {v : Value} (h : RepV A ids w x v) : ∃ cap, (∀ c', c = some c' → cap = c') ∧ RepV A ids w (.sx n sz off len cap) v := by
  cases hx with
  | sl => cases h with | sl _ _ _ _ cap ad hl hc => exact ⟨cap, by simp, .sx _ _ _ _ _ ad hl hc⟩
  | ac => cases h with
    | ac0 => exact ⟨0, by simp, .sx _ _ _ _ _ _ (Nat.le_refl _) (fun h => absurd rfl h)⟩
    | ac1 _ _ _ _ h0 h => cases h with | sl _ _ _ _ cap ad hl hc => exact ⟨cap, by simp, .sx _ _ _ _ _ ad hl hc⟩
  | sx => cases h with | sx _ _ _ _ _ ad hl hc => exact ⟨_, by simp, .sx _ _ _ _ _ ad hl hc⟩
theorem InBlk.below {n sz off len : Nat} {c : Option Nat} {x : V} (hx : InBlk n sz x off len c) {m : Nm} (h : x.Below m) : m n := by
  cases hx <;> cases h <;> assumption
theorem optVal {e : Operand → V} {o : Option Operand} {d n : Nat} (ho : atO e o d n) {A : Nat → Prop} {ids : Nat → Nat × Nat} {w : World} {ρ : Operand → Value} (hr : ∀ x ∈ o.toList, RepV A ids w (e x) (ρ x)) :
    (o.map ρ = none ∧ n = d) ∨ ∃ k, o.map ρ = some (.int k (n : Int)) := by
  cases o with
  | none => exact .inl ⟨rfl, ho⟩
  | some x =>
    obtain ⟨k, hk⟩ := ho
    have := hr x (by simp)
    rw [hk] at this
    exact .inr ⟨k, by rw [Option.map_some, int_val this]⟩
/-- s[a:b] of a slice whose room is known, up to its room -/
theorem cutSx (ht : TabOk P tab) {ty : TypeId} {x : Operand} {lo hi : Option Operand} {t : List V} {h : List (Nat × B)} {bn : Nat} {K : V → List (Nat × B) → Prop} (ε : Ty) (hε : sliceElem tab ty = some ε) {n off len cap : Nat} (a b : Nat) (hx : evS (tAt t) x = .sx n ε.size off len cap)
    (hlo : atO (evS (tAt t)) lo 0 a) (hhi : atO (evS (tAt t)) hi len b) (h1 : a ≤ b) (h2 : b ≤ cap) (k : K (.sx n ε.size (off + a) (b - a) (cap - a)) h) : OpB P (.slice ty x lo hi none) t h bn K := by
  refine ⟨AOp.ok fun F ids w ac o ho hh hr hb => ⟨_, _, ⟨h, rfl, k⟩, ?_⟩⟩
  obtain ⟨τ, et, hτ, hk, he⟩ := sliceElem_some hε
  have hd := slice_desc ht hτ hk
  have hxv := hr x (by simp [Op.operands])
  have hxb := hb x (by simp [Op.operands])
  rw [hx] at hxv hxb
  have p1 := optVal (ρ := ac.eval) hlo fun y hy => hr y (by simp only [Op.operands, Array.toList_append, List.mem_append]; simp at hy ⊢; simp [hy])
  have p2 := optVal (ρ := ac.eval) hhi fun y hy => hr y (by simp only [Op.operands, Array.toList_append, List.mem_append]; simp at hy ⊢; simp [hy])
  generalize hq : ac.eval x = xv at hxv
  cases hxb with
  | sx _ _ _ _ _ hn =>
  cases hxv with
  | sx _ _ _ _ _ ad hl hcc =>
  have hrun := sliceBounds_run (P := P) (w := w) (len := len) p1 p2 h1 h2
  refine OpOk.still (val := .slice (if cap = a then ad else ad.map (·.add (a * ε.size))) (b - a) (cap - a)) hh (Nm.le_add _ _) ?_ (.sx _ _ _ _ _ _ (by omega) fun h0 => ?_) (.sx _ _ _ _ _ hn)
  · simp only [execOp, ho, hq, Instr.sliceAt, Sem.run_bind, hd, Result.andThen_ok, Instr.slice, Option.map_none, hrun, (ht _ _ he).sizeOf, Sem.run_pure]
  · have hca : cap ≠ a := by omega
    obtain ⟨arr, T, hs, rfl, ha⟩ := hcc (by omega)
    refine ⟨arr, T, hs, ?_, by rw [show off + a + (cap - a) = off + cap by omega]; exact ha⟩
    rw [if_neg hca, Option.map_some, add_none, Nat.add_mul, Nat.add_assoc]
/-- s[a:b:b]: no room is left -/
theorem cutMx (ht : TabOk P tab) {ty : TypeId} {x y z : Operand} {lo : Option Operand} {t : List V} {h : List (Nat × B)} {bn : Nat} {K : V → List (Nat × B) → Prop} (ε : Ty) (hε : sliceElem tab ty = some ε) {n off len : Nat} {c : Option Nat} (a b : Nat) (hx : InBlk n ε.size (evS (tAt t) x) off len c)
    (hlo : atO (evS (tAt t)) lo 0 a) (hhi : atO (evS (tAt t)) (some y) len b) (hmx : atO (evS (tAt t)) (some z) len b) (h1 : a ≤ b) (h2 : b ≤ len) (k : K (.sx n ε.size (off + a) (b - a) (b - a)) h) : OpB P (.slice ty x lo (some y) (some z)) t h bn K := by
  refine ⟨AOp.ok fun F ids w ac o ho hh hr hb => ⟨_, _, ⟨h, rfl, k⟩, ?_⟩⟩
  obtain ⟨τ, et, hτ, hk, he⟩ := sliceElem_some hε
  have hd := slice_desc ht hτ hk
  have hn := hx.below (hb x (by simp [Op.operands]))
  obtain ⟨cap, _, hxv⟩ := hx.rep (hr x (by simp [Op.operands]))
  have p1 := optVal (ρ := ac.eval) hlo fun y hy => hr y (by simp only [Op.operands, Array.toList_append, List.mem_append]; simp at hy ⊢; simp [hy])
  have p2 := optVal (ρ := ac.eval) hhi fun y hy => hr y (by simp only [Op.operands, Array.toList_append, List.mem_append]; simp at hy ⊢; simp [hy])
  have p3 := optVal (ρ := ac.eval) hmx fun y hy => hr y (by simp only [Op.operands, Array.toList_append, List.mem_append]; simp at hy ⊢; simp [hy])
  generalize hq : ac.eval x = xv at hxv
  cases hxv with
  | sx _ _ _ _ _ ad hl hcc =>
  have hrun := sliceBounds_run3 (P := P) (w := w) (len := len) (cap := cap) p1 (p2.resolve_left (by simp)) (p3.resolve_left (by simp)) h1 (by omega)
  refine OpOk.still (val := .slice (if b = a then ad else ad.map (·.add (a * ε.size))) (b - a) (b - a)) hh (Nm.le_add _ _) ?_ (.sx _ _ _ _ _ _ (Nat.le_refl _) fun h0 => ?_) (.sx _ _ _ _ _ hn)
  · simp only [Option.map_some] at hrun
    simp only [execOp, ho, hq, Instr.sliceAt, Sem.run_bind, hd, Result.andThen_ok, Instr.slice, Option.map_some, hrun, (ht _ _ he).sizeOf, Sem.run_pure]
  · have hca : b ≠ a := by omega
    obtain ⟨arr, T, hs, rfl, ha⟩ := hcc (by omega)
    have h3 : (off + a + (b - a)) * ε.size ≤ (off + cap) * ε.size := Nat.mul_le_mul_right _ (by omega)
    refine ⟨arr, T, hs, ?_, by omega⟩
    rw [if_neg hca, Option.map_some, add_none, Nat.add_mul, Nat.add_assoc]
/-- s[a:a:a]: nothing, and no room -/
theorem cutNo (ht : TabOk P tab) {ty : TypeId} {x y z : Operand} {lo : Option Operand} {t : List V} {h : List (Nat × B)} {bn : Nat} {K : V → List (Nat × B) → Prop} (ε : Ty) (hε : sliceElem tab ty = some ε) {n off len : Nat} {c : Option Nat} (a : Nat) (hx : InBlk n ε.size (evS (tAt t) x) off len c)
    (hlo : atO (evS (tAt t)) lo 0 a) (hhi : atO (evS (tAt t)) (some y) len a) (hmx : atO (evS (tAt t)) (some z) len a) (h2 : a ≤ len) (k : K (.lst ε.size [] true) h) : OpB P (.slice ty x lo (some y) (some z)) t h bn K := by
  have := cutMx (P := P) (bn := bn) (K := fun v l => K (.lst ε.size [] true) l ∧ v = .sx n ε.size (off + a) (a - a) (a - a)) ht ε hε a a hx hlo hhi hmx (Nat.le_refl _) h2 ⟨k, rfl⟩
  obtain ⟨hrun⟩ := this
  refine ⟨fun F ids w ac o ho hh hr hb next Q hn => hrun F ids w ac o ho hh hr hb next Q ?_⟩
  rintro v h' ids' w' val ⟨l, rfl, hk, rfl⟩ hc hv hvb
  refine hn _ _ ids' w' val ⟨l, rfl, hk⟩ hc ?_ (.lst _ _ _)
  rw [Nat.sub_self] at hv
  cases hv with
  | sx _ _ _ _ _ ad hl hcc => exact .lst _ _ _ _ (.emp _ _ _) (fun _ => ⟨ad, rfl⟩)
/-- the room, asked for -/
theorem capB (ht : TabOk P tab) {ty : TypeId} {x : Operand} {t : List V} {h : List (Nat × B)} {bn : Nat} {K : V → List (Nat × B) → Prop} (ε : Ty) (hε : sliceElem tab ty = some ε) {n sz off len cap : Nat} (hx : evS (tAt t) x = .sx n sz off len cap) (k : K (V.int cap) h) : OpB P (.call ⟨.builtin .cap, #[x], #[ty]⟩) t h bn K := by
  refine ⟨AOp.ok fun F ids w ac o ho hh hr hb => ⟨_, _, ⟨h, rfl, k⟩, ?_⟩⟩
  obtain ⟨τ, et, hτ, hk, he⟩ := sliceElem_some hε
  have hd := slice_desc ht hτ hk
  have hxv := hr x (by simp [Op.operands, Call.operands])
  rw [hx] at hxv
  generalize hq : ac.eval x = xv at hxv
  cases hxv with
  | sx _ _ _ _ _ ad hl hcc =>
  refine OpOk.still (val := .int .i64 cap) hh (Nm.le_add _ _) ?_ (.c _) (.c _)
  simp [execOp, ho, resolve, invoke, builtin, hq, Builtin.cap_, hd, goInt]
end
end Go.Proofs.Ytmihhkcbbdpnaaa.Abs
