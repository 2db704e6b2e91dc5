/- The abstract machine, part 12: built-in functions; all operations together. -/
import Derived.Test.YtmihhkcbbdpnaaaA11
namespace Go.Proofs.Ytmihhkcbbdpnaaa.Abs
set_option linter.unusedVariables false
set_option linter.unusedSimpArgs false
section
variable {P : Program} {tab : Tab}

theorem arr_of_toList {α : Type} {a : Array α} {l : List α} (h : a.toList = l) : a = l.toArray := by rw [← h]

theorem s_call (ht : TabOk P tab) {F : Nat → Prop} {ids : Nat → Nat × Nat} {w : World} {h h' : Hp} {nx : Nm} {nm : Nat} (hh : RepH F ids w h nx) (hn : ¬ nx nm) (e : Operand → V) (ρ : Operand → Value)
    (he : ∀ x, RepV (Avoid F h ids) ids w (e x) (ρ x)) (hb : ∀ x, (e x).Below nx) (hρ : ∀ v, ρ (.const v) = v) (o : Oper) (c : Call) (ho : o.op = .call c) {v : V} (hs : sop tab nm e h (.call c) = some (v, h')) :
    OpOk F ids w h nx ((execOp ρ o).run P w) v h' (nx.add nm) := by
  have hnx : nx.le (nx.add nm) := Nm.le_add _ _
  rw [sop_call] at hs
  have hex : ∀ b, c.callee = .builtin b → execOp ρ o = builtin b c.argTypes o.type (c.args.map fun | .const _ => true | _ => false) (c.args.map ρ) := by
    intro b hcb
    unfold execOp
    rw [ho]
    simp only [resolve, hcb]
    rfl
  unfold callV at hs
  split at hs
  · next hcal =>
    rw [hex _ hcal]
    split at hs
    · next x t hx ht' =>
      rw [Option.map_eq_some_iff] at hs
      obtain ⟨n, hn', he'⟩ := hs
      simp only [Prod.mk.injEq] at he'
      obtain ⟨rfl, rfl⟩ := he'
      rw [Option.bind_eq_some_iff] at hn'
      obtain ⟨τ, hτ, hl⟩ := hn'
      have p := len_sound (P := P) ht hh hτ (he x) hl o.type
      rw [arr_of_toList hx, arr_of_toList ht']
      refine OpOk.still (val := .int .i64 n) hh hnx ?_ (.c _) (.c _)
      simp only [builtin, Sem.run_bind, List.map_toArray, List.map_cons, List.map_nil]
      rw [p]; rfl
    · cases hs
  · next hcal =>
    rw [hex _ hcal]
    split at hs
    · next s x t t' hx ht' =>
      split at hs
      · next hsl =>
        rw [arr_of_toList hx, arr_of_toList ht']
        unfold isSlice at hsl
        split at hsl
        · next e' hk =>
          rw [Option.map_eq_some_iff] at hk
          obtain ⟨τ', hτ', hk⟩ := hk
          have q := appendV_sound (P := P) (T := o.type) ht hh hn (he s) (he x) (hb s) (hb x) hτ' ⟨e', hk⟩ hs
          simpa only [builtin, List.map_toArray, List.map_cons, List.map_nil] using q
        · cases hsl
      · cases hs
    · cases hs
  · next hcal =>
    rw [hex _ hcal]
    split at hs
    · next x y hx =>
      rw [Option.map_eq_some_iff] at hs
      obtain ⟨n, hn', he'⟩ := hs
      simp only [Prod.mk.injEq] at he'
      obtain ⟨rfl, rfl⟩ := he'
      rw [arr_of_toList hx]
      have hx' := he x
      have hy' := he y
      generalize e x = vx at *
      generalize e y = vy at *
      unfold minV at hn'
      split at hn'
      · next k a k' b =>
        split at hn'
        · next hkk =>
          subst hkk
          cases hn'
          refine OpOk.still (val := .int k (if b < a then b else a)) hh hnx ?_ (by simp only [decide_eq_true_eq]; exact .c _) (.c _)
          have e1 : ρ x = .int k a := by cases hq : ρ x <;> rw [hq] at hx' <;> cases hx' <;> rfl
          have e2 : ρ y = .int k b := by cases hq : ρ y <;> rw [hq] at hy' <;> cases hy' <;> rfl
          simp [builtin, Builtin.min_, Builtin.min2, e1, e2]
        · cases hn'
      · cases hn'
    · cases hs
  · next hcal =>
    rw [hex _ hcal]
    split at hs
    · next x y hx =>
      rw [Option.map_eq_some_iff] at hs
      obtain ⟨n, hn', he'⟩ := hs
      simp only [Prod.mk.injEq] at he'
      obtain ⟨rfl, rfl⟩ := he'
      rw [arr_of_toList hx]
      have hx' := he x
      have hy' := he y
      generalize e x = vx at *
      generalize e y = vy at *
      unfold minV at hn'
      split at hn'
      · next k a k' b =>
        split at hn'
        · next hkk =>
          subst hkk
          cases hn'
          refine OpOk.still (val := .int k (if a < b then b else a)) hh hnx ?_ (by simp only [decide_eq_true_eq]; exact .c _) (.c _)
          have e1 : ρ x = .int k a := by cases hq : ρ x <;> rw [hq] at hx' <;> cases hx' <;> rfl
          have e2 : ρ y = .int k b := by cases hq : ρ y <;> rw [hq] at hy' <;> cases hy' <;> rfl
          simp [builtin, Builtin.max_, Builtin.max2, e1, e2]
        · cases hn'
      · cases hn'
    · cases hs
  · cases hs

theorem sop_sound (ht : TabOk P tab) {F : Nat → Prop} {ids : Nat → Nat × Nat} {w : World} {h h' : Hp} {nx : Nm} {nm : Nat} (hh : RepH F ids w h nx) (hn : ¬ nx nm) (e : Operand → V) (ρ : Operand → Value)
    (he : ∀ x, RepV (Avoid F h ids) ids w (e x) (ρ x)) (hb : ∀ x, (e x).Below nx) (hρ : ∀ v, ρ (.const v) = v) (o : Oper) {v : V} (hs : sop tab nm e h o.op = some (v, h')) :
    OpOk F ids w h nx ((execOp ρ o).run P w) v h' (nx.add nm) := by
  obtain ⟨dst, op, type, pos, after, guard⟩ := o
  cases op with
  | move x => exact s_move ht hh hn e ρ he hb hρ _ x rfl hs
  | assign x => exact s_assign ht hh hn e ρ he hb hρ _ x rfl hs
  | alloc t => exact s_alloc ht hh hn e ρ he hb hρ _ t rfl hs
  | box t x => exact s_box ht hh hn e ρ he hb hρ _ t x rfl hs
  | build t ps => exact s_build ht hh hn e ρ he hb hρ _ t ps rfl hs
  | buildSlice t n ps => exact s_buildSlice ht hh hn e ρ he hb hρ _ t n ps rfl hs
  | load t a => exact s_load ht hh hn e ρ he hb hρ _ t a rfl hs
  | store t a x => exact s_store ht hh hn e ρ he hb hρ _ t a x rfl hs
  | nilCheck x => exact s_nilCheck ht hh hn e ρ he hb hρ _ x rfl hs
  | binOp op t x y t' => exact s_binOp ht hh hn e ρ he hb hρ _ op t x y t' rfl hs
  | unOp op t x => exact s_unOp ht hh hn e ρ he hb hρ _ op t x rfl hs
  | convert s d x => exact s_convert ht hh hn e ρ he hb hρ _ s d x rfl hs
  | makeInterface t x => exact s_makeInterface ht hh hn e ρ he hb hρ _ t x rfl hs
  | makeFunc f a b => exact s_makeFunc ht hh hn e ρ he hb hρ _ f a b rfl hs
  | slice t x l hi m => exact s_slice ht hh hn e ρ he hb hρ _ t x l hi m rfl hs
  | fieldAddr s x f => exact s_fieldAddr ht hh hn e ρ he hb hρ _ s x f rfl hs
  | field s x f => exact s_field ht hh hn e ρ he hb hρ _ s x f rfl hs
  | indexAddr t x i => exact s_indexAddr ht hh hn e ρ he hb hρ _ t x i rfl hs
  | index t x i => exact s_index ht hh hn e ρ he hb hρ _ t x i rfl hs
  | extract x i => exact s_extract ht hh hn e ρ he hb hρ _ x i rfl hs
  | call c => exact s_call ht hh hn e ρ he hb hρ _ c rfl hs
  | _ => exact absurd hs (by intro hs; cases hs)
end
end Go.Proofs.Ytmihhkcbbdpnaaa.Abs
