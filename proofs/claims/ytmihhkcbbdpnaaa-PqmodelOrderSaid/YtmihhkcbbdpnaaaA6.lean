/- The abstract machine, part 6: nil, addresses, lengths, cuts. -/
import Derived.Test.YtmihhkcbbdpnaaaA5
namespace Go.Proofs.Ytmihhkcbbdpnaaa.Abs
section
variable {P : Program} {tab : Tab}

theorem isNil_sound (ht : TabOk P tab) {t : TypeId} {x : V} {c : Value} {b : Bool} {A : Nat → Prop} {ids : Nat → Nat × Nat} {w : World} {vx : Value} (hx : RepV A ids w x vx)
    (hc : nilOp ((tab t).map Ty.kind) (.const c) = true) (h : isNil ((tab t).map Ty.kind) x = some b) (ox : Operand) :
    (do eqGuard .eql t ox (.const c) vx c; binOp .eql t vx c).run P w = .ok (.bool b) w ∧ (do eqGuard .neq t ox (.const c) vx c; binOp .neq t vx c).run P w = .ok (.bool (!b)) w := by
  cases hk : (tab t).map Ty.kind with
  | none => rw [hk] at h; simp [isNil] at h
  | some k =>
    rw [hk] at h hc
    obtain ⟨d, g, h1, h2, hf⟩ := kind_fits ht hk
    have e9 : ∀ x y, Op.equal t x y = Op.equalIn (9999 + 1) t x y := fun _ _ => rfl
    have key : (Op.equal t vx c).run P w = .ok b w ∧ (∀ op, (eqGuard op t ox (.const c) vx c).run P w = .ok () w) ∧ binOp .eql t vx c = (do pure (.bool (← Op.equal t vx c))) ∧ binOp .neq t vx c = (do pure (.bool (!(← Op.equal t vx c)))) := by
      simp only [nilOp, Option.any_some] at hc
      simp only [isNil, Option.bind_some] at h
      cases hf <;> simp only [nilK, Bool.false_eq_true] at hc
      case iface ms =>
        split at hc
        case h_2 => cases hc
        simp only [isNilK] at h
        split at h
        · cases h; cases hx; exact ⟨by rw [e9, Op.equalIn]; simp [h1], fun op => by cases op <;> simp [eqGuard], rfl, rfl⟩
        · cases h; cases hx; exact ⟨by rw [e9, Op.equalIn]; simp [h1], fun op => by cases op <;> rfl, rfl, rfl⟩
        · cases h
      case func a b v =>
        split at hc
        case h_2 => cases hc
        simp only [isNilK] at h
        split at h
        · cases h; cases hx; exact ⟨by rw [e9, Op.equalIn]; simp [h1], fun op => by cases op <;> rfl, rfl, rfl⟩
        · cases h; cases hx; exact ⟨by rw [e9, Op.equalIn]; simp [h1], fun op => by cases op <;> rfl, rfl, rfl⟩
        · cases h
      case ptr e =>
        split at hc
        case h_2 => cases hc
        simp only [isNilK] at h
        split at h
        · cases h; cases hx; exact ⟨by rw [e9, Op.equalIn]; simp [h1], fun op => by cases op <;> rfl, rfl, rfl⟩
        · cases h; cases hx; exact ⟨by rw [e9, Op.equalIn]; simp [h1], fun op => by cases op <;> rfl, rfl, rfl⟩
        · cases h; cases hx; exact ⟨by rw [e9, Op.equalIn]; simp [h1], fun op => by cases op <;> rfl, rfl, rfl⟩
        · cases h
      case map k e =>
        split at hc
        case h_2 => cases hc
        simp only [isNilK] at h
        split at h
        · cases h; cases hx; exact ⟨by rw [e9, Op.equalIn]; simp [h1], fun op => by cases op <;> rfl, rfl, rfl⟩
        · cases h; cases hx; exact ⟨by rw [e9, Op.equalIn]; simp [h1], fun op => by cases op <;> rfl, rfl, rfl⟩
        · cases h
      case slice e =>
        split at hc
        case h_2 => cases hc
        simp only [isNilK] at h
        split at h
        · cases h; cases hx; exact ⟨by rw [e9, Op.equalIn]; simp [h1], fun op => by cases op <;> rfl, rfl, rfl⟩
        · cases h
        · cases h; cases hx; next hd _ => cases hd; exact ⟨by rw [e9, Op.equalIn]; simp [h1], fun op => by cases op <;> rfl, rfl, rfl⟩
        · cases h
    obtain ⟨k1, k2, k3, k4⟩ := key
    refine ⟨?_, ?_⟩
    · rw [Sem.run_bind, k2, Result.andThen_ok, k3, Sem.run_bind, k1]; rfl
    · rw [Sem.run_bind, k2, Result.andThen_ok, k4, Sem.run_bind, k1]; rfl

/-- a question whether a slice is nil, where the answer is open: whether it is asked for non-nil, and what a yes tells -/
def empV : V → Option Prop
  | .lst _ rows _ => some (rows = [])
  | .ac _ _ len => some (len = 0)
  | _ => none
def askV (k : Option TK) (bo : BinOp) (y : Operand) (x : V) : Option (Bool × Prop) :=
  match nilOp k y with
  | false => none
  | true => match k with
    | some (.slice _) => match bo with
      | .eql => (empV x).map fun p => (false, p)
      | .neq => (empV x).map fun p => (true, p)
      | _ => none
    | _ => none
theorem empV_slice {x : V} {p : Prop} {A : Nat → Prop} {ids : Nat → Nat × Nat} {w : World} {v : Value} (hx : RepV A ids w x v) (h : empV x = some p) : ∃ a len cap, v = .slice a len cap ∧ (a = none → p) := by
  cases x with
  | lst sz rows cl =>
    simp only [empV, Option.some.injEq] at h
    subst h
    cases hx with
    | lst _ _ _ _ hd _ =>
      cases hd with
      | emp _ a cap => exact ⟨a, 0, cap, rfl, fun _ => rfl⟩
      | lst => exact ⟨_, _, _, rfl, fun h => by cases h⟩
  | ac n sz len =>
    simp only [empV, Option.some.injEq] at h
    subst h
    cases hx with
    | ac0 => exact ⟨_, _, _, rfl, fun _ => rfl⟩
    | ac1 _ _ _ _ h0 h =>
      cases h with
      | sl _ _ _ _ cap ad hl hc =>
        obtain ⟨arr, T, _, e, _⟩ := hc (by omega)
        exact ⟨_, _, _, rfl, fun h => by rw [e] at h; cases h⟩
  | _ => cases h
theorem ask_sound (ht : TabOk P tab) {t : TypeId} {x : V} {c : Value} {bo : BinOp} {neg : Bool} {p : Prop} {A : Nat → Prop} {ids : Nat → Nat × Nat} {w : World} {vx : Value} (hx : RepV A ids w x vx)
    (h : askV ((tab t).map Ty.kind) bo (.const c) x = some (neg, p)) (ox : Operand) :
    ∃ z : Bool, (z = true → p) ∧ (do eqGuard bo t ox (.const c) vx c; binOp bo t vx c).run P w = .ok (.bool (z != neg)) w := by
  unfold askV at h
  cases hc : nilOp ((tab t).map Ty.kind) (.const c) with
  | false => rw [hc] at h; cases h
  | true =>
    rw [hc] at h
    dsimp only at h
    cases hk : (tab t).map Ty.kind with
    | none => rw [hk] at h; cases h
    | some k =>
      rw [hk] at h hc
      obtain ⟨d, g, h1, h2, hf⟩ := kind_fits ht hk
      have e9 : ∀ x y, Op.equal t x y = Op.equalIn (9999 + 1) t x y := fun _ _ => rfl
      cases k with
      | slice e =>
        simp only [nilOp, Option.any_some, nilK] at hc
        split at hc
        case h_2 => cases hc
        dsimp only at h
        have main : ∀ q, empV x = some q → ∃ z : Bool, (z = true → q) ∧ (Op.equal t vx (.slice none 0 0)).run P w = .ok z w := by
          intro q hq
          obtain ⟨a, len, cap, rfl, ha⟩ := empV_slice hx hq
          cases hf
          refine ⟨a.isNone, fun h => ha (by simpa using h), ?_⟩
          rw [e9, Op.equalIn]
          cases a <;> simp [h1]
        cases bo <;> try cases h
        · rw [Option.map_eq_some_iff] at h
          obtain ⟨q, hq, h⟩ := h
          cases h
          obtain ⟨z, hz, k1⟩ := main _ hq
          refine ⟨z, hz, ?_⟩
          have k2 : (eqGuard .eql t ox (.const (.slice none 0 0)) vx (.slice none 0 0)).run P w = .ok () w := by obtain ⟨a, len, cap, rfl, _⟩ := empV_slice hx hq; rfl
          have k3 : binOp .eql t vx (.slice none 0 0) = (do pure (.bool (← Op.equal t vx (.slice none 0 0)))) := by obtain ⟨a, len, cap, rfl, _⟩ := empV_slice hx hq; rfl
          rw [Sem.run_bind, k2, Result.andThen_ok, k3, Sem.run_bind, k1]
          cases z <;> rfl
        · rw [Option.map_eq_some_iff] at h
          obtain ⟨q, hq, h⟩ := h
          cases h
          obtain ⟨z, hz, k1⟩ := main _ hq
          refine ⟨z, hz, ?_⟩
          have k2 : (eqGuard .neq t ox (.const (.slice none 0 0)) vx (.slice none 0 0)).run P w = .ok () w := by obtain ⟨a, len, cap, rfl, _⟩ := empV_slice hx hq; rfl
          have k3 : binOp .neq t vx (.slice none 0 0) = (do pure (.bool (!(← Op.equal t vx (.slice none 0 0))))) := by obtain ⟨a, len, cap, rfl, _⟩ := empV_slice hx hq; rfl
          rw [Sem.run_bind, k2, Result.andThen_ok, k3, Sem.run_bind, k1]
          cases z <;> rfl
      | _ => cases h

/-! ### fields and elements -/
theorem fieldV_sound (ht : TabOk P tab) {s : TypeId} {f off : Nat} {τ' : Ty} (h : fieldV tab s f = some (off, τ')) :
    ∃ (fields : Array Field) (fd : Field), (∀ w, (underlying s).run P w = .ok (.struct fields) w) ∧ fields[f]? = some fd ∧ fd.offset = off ∧ TyOk P fd.type τ' := by
  unfold fieldV at h
  rw [Option.bind_eq_some_iff] at h
  obtain ⟨τ, hτ, h⟩ := h
  split at h
  · next fs hk =>
    rw [Option.bind_eq_some_iff] at h
    obtain ⟨p, hp, h⟩ := h
    rw [Option.map_eq_some_iff] at h
    obtain ⟨τ2, h2, he⟩ := h
    simp only [Prod.mk.injEq] at he
    obtain ⟨rfl, rfl⟩ := he
    obtain ⟨d, h1, _, hf⟩ := (ht s τ hτ).desc
    rw [hk] at hf
    generalize τ.agg = g at hf
    cases hf with
    | struct fields l hl =>
      rw [← hl, List.getElem?_map, Option.map_eq_some_iff] at hp
      obtain ⟨fd, hfd, rfl⟩ := hp
      exact ⟨fields, fd, h1, by simpa using hfd, rfl, ht _ _ h2⟩
  · cases h

theorem fieldAddr_sound (ht : TabOk P tab) {s : TypeId} {f : Nat} {x v : V} {A : Nat → Prop} {ids : Nat → Nat × Nat} {w : World} {vx : Value} (hx : RepV A ids w x vx) (h : fieldAddrV tab s x f = some v) {nx : Nm} (hb : x.Below nx) :
    ∃ val, (Instr.fieldAt s vx f).run P w = .ok val w ∧ RepV A ids w v val ∧ v.Below nx := by
  unfold fieldAddrV at h
  rw [Option.bind_eq_some_iff] at h
  obtain ⟨⟨off, τ'⟩, hf, h⟩ := h
  obtain ⟨fields, fd, h1, h2, h3, h4⟩ := fieldV_sound ht hf
  dsimp only at h
  split at h
  · cases h
  · next hz =>
    split at h
    · next n sz i j =>
      cases h
      cases hx
      cases hb
      next hn =>
      refine ⟨_, ?_, .p n sz i (j + off), .p _ _ _ _ hn⟩
      simp only [Instr.fieldAt, Sem.run_bind, h1, Result.andThen_ok, h2, Instr.sureAddr, Sem.run_pure, fieldPlace, h4.sizeOf, hz, if_false, add_none, h3, Nat.add_assoc]
    · next row j =>
      cases h
      cases hx with
      | q _ _ b o cell hb' hA hc hd =>
        refine ⟨_, ?_, .q row (j + off) b o cell hb' hA hc hd, .q _ _⟩
        simp only [Instr.fieldAt, Sem.run_bind, h1, Result.andThen_ok, h2, Instr.sureAddr, Sem.run_pure, fieldPlace, h4.sizeOf, hz, if_false, add_none, h3, Nat.add_assoc]
    · cases h

/-- a part of the cells of an aggregate -/
theorem part_sound {t : TypeId} {τ : Ty} (h : TyOk P t τ) {xs : List V} {arr : Array Value} {off : Nat} {v : V} {A : Nat → Prop} {ids : Nat → Nat × Nat} {w : World} (hs : arr.size = xs.length)
    (hr : ∀ (i : Nat) (x : V) (v : Value), xs[i]? = some x → arr[i]? = some v → RepV A ids w x v) (hl : loadRow τ xs off = some v) {nx : Nm} (hb : ∀ x ∈ xs, x.Below nx) :
    ∃ val, (part t arr off).run P w = .ok val w ∧ RepV A ids w v val ∧ v.Below nx := by
  unfold loadRow at hl
  simp only [part, Sem.run_bind, h.isAgg, Result.andThen_ok]
  split at hl
  · next ha =>
    split at hl
    · next hsz =>
      cases hl
      rw [ha]
      refine ⟨.agg (arr.extract off (off + τ.size)), by simp only [if_true, Sem.run_bind, h.sizeOf, Result.andThen_ok, Sem.run_pure], ?_, .agg _ fun x hx => hb x (List.mem_of_mem_drop (List.mem_of_mem_take hx))⟩
      refine .agg _ _ (by simp; omega) fun i x u hx hu => ?_
      have hi : i < τ.size := by
        have := (List.getElem?_eq_some_iff.1 hx).1; simp at this; omega
      rw [List.getElem?_take_of_lt hi, List.getElem?_drop] at hx
      rw [Array.getElem?_extract, if_pos (by omega)] at hu
      exact hr _ x u hx hu
    · cases hl
  · next ha =>
    have hlt := (List.getElem?_eq_some_iff.1 hl).1
    have hv : arr[off]? = some arr[off] := by simp [hs, hlt]
    simp only [Bool.not_eq_true] at ha
    refine ⟨arr[off], by rw [ha]; simp only [Bool.false_eq_true, if_false, hv, Sem.run_pure], hr off v _ hl hv, hb v (List.mem_of_getElem? hl)⟩

theorem fieldVal_sound (ht : TabOk P tab) {s : TypeId} {f : Nat} {x v : V} {A : Nat → Prop} {ids : Nat → Nat × Nat} {w : World} {vx : Value} (hx : RepV A ids w x vx) (h : fieldValV tab s x f = some v) {nx : Nm} (hb : x.Below nx) :
    ∃ val, (Instr.field s vx f).run P w = .ok val w ∧ RepV A ids w v val ∧ v.Below nx := by
  unfold fieldValV at h
  rw [Option.bind_eq_some_iff] at h
  obtain ⟨⟨off, τ'⟩, hf, h⟩ := h
  obtain ⟨fields, fd, h1, h2, h3, h4⟩ := fieldV_sound ht hf
  dsimp only at h
  split at h
  · next xs =>
    cases hx with
    | agg _ arr hs hr =>
      cases hb with
      | agg _ hb =>
        obtain ⟨val, p1, p2⟩ := part_sound h4 hs hr h hb
        refine ⟨val, ?_, p2⟩
        simp only [Instr.field, Sem.run_bind, h1, Result.andThen_ok, h2, h3]
        simpa [asAgg] using p1
  · cases h

theorem elemV_slice {t e : TypeId} {τ ε : Ty} (hτ : tab t = some τ) (hk : τ.kind = .slice e) (h : elemV tab t = some ε) : tab e = some ε := by
  simpa [elemV, hτ, hk] using h
theorem elemV_array {t e : TypeId} {m : Nat} {τ ε : Ty} (hτ : tab t = some τ) (hk : τ.kind = .array m e) (h : elemV tab t = some ε) : tab e = some ε := by
  simpa [elemV, hτ, hk] using h
theorem slice_desc (ht : TabOk P tab) {t e : TypeId} {τ : Ty} (hτ : tab t = some τ) (hk : τ.kind = .slice e) (w : World) : (underlying t).run P w = .ok (.slice e) w := by
  obtain ⟨d, h1, _, hf⟩ := (ht t τ hτ).desc
  rw [hk] at hf
  generalize τ.agg = g at hf
  cases hf; exact h1 w
theorem array_desc (ht : TabOk P tab) {t e : TypeId} {m : Nat} {τ : Ty} (hτ : tab t = some τ) (hk : τ.kind = .array m e) (w : World) : (underlying t).run P w = .ok (.array m e) w := by
  obtain ⟨d, h1, _, hf⟩ := (ht t τ hτ).desc
  rw [hk] at hf
  generalize τ.agg = g at hf
  cases hf; exact h1 w

theorem indexAddr_sound (ht : TabOk P tab) {t : TypeId} {x ix v : V} {A : Nat → Prop} {ids : Nat → Nat × Nat} {w : World} {vx vi : Value} (hx : RepV A ids w x vx) (hi : RepV A ids w ix vi) (h : indexAddrV tab t x ix = some v)
    {nx : Nm} (hb : x.Below nx) : ∃ val, (Instr.indexAt t vx vi).run P w = .ok val w ∧ RepV A ids w v val ∧ v.Below nx := by
  unfold indexAddrV at h
  rw [Option.bind_eq_some_iff] at h
  obtain ⟨τ, hτ, h⟩ := h
  rw [Option.bind_eq_some_iff] at h
  obtain ⟨ε, hε, h⟩ := h
  split at h
  · next e n sz off len k i hk =>
    split at h
    · next hc =>
      cases h
      cases hi
      cases hb
      next hn =>
      have he := ht _ _ (elemV_slice hτ hk hε)
      cases hx with
      | sl _ _ _ _ cap ad hl hc' =>
        obtain ⟨c1, c2, c3⟩ := hc
        have hcap : cap ≠ 0 := by omega
        obtain ⟨arr, T, hs, rfl, ha⟩ := hc' hcap
        refine ⟨.pointer (some ⟨(ids n).1, (ids n).2 + ((off + i.toNat) * sz + 0), none⟩), ?_, .p _ _ _ _, .p _ _ _ _ hn⟩
        have hd := slice_desc ht hτ hk
        simp only [Instr.indexAt, asIntOf, Sem.run_bind, Sem.run_pure, Result.andThen_ok, hd, c2, c3, and_self, if_true, he.sizeOf, c1, add_none, Nat.add_mul, Nat.add_assoc, Nat.add_zero]
    · cases h
  · next e n sz len k i hk =>
    split at h
    · next hc =>
      cases h
      cases hi
      cases hb
      next hn =>
      have he := ht _ _ (elemV_slice hτ hk hε)
      obtain ⟨c1, c2, c3⟩ := hc
      cases hx with
      | ac0 => omega
      | ac1 _ _ _ _ h0 hx =>
      cases hx with
      | sl _ _ _ _ cap ad hl hc' =>
        have hcap : cap ≠ 0 := by omega
        obtain ⟨arr, T, hs, rfl, ha⟩ := hc' hcap
        refine ⟨.pointer (some ⟨(ids n).1, (ids n).2 + (i.toNat * sz + 0), none⟩), ?_, .p _ _ _ _, .p _ _ _ _ hn⟩
        have hd := slice_desc ht hτ hk
        simp only [Instr.indexAt, asIntOf, Sem.run_bind, Sem.run_pure, Result.andThen_ok, hd, c2, c3, and_self, if_true, he.sizeOf, c1, add_none, Nat.zero_mul, Nat.add_zero]
    · cases h
  · next e sz rows clip k i hk =>
    split at h
    · next hc =>
      rw [Option.map_eq_some_iff] at h
      obtain ⟨row, hrow, rfl⟩ := h
      cases hi
      have he := ht _ _ (elemV_slice hτ hk hε)
      obtain ⟨c1, c2, c3⟩ := hc
      cases hx with
      | lst _ _ _ _ hd _ =>
        cases hd with
        | emp => simp at c3; omega
        | lst _ _ b o cap cell hcap hb' hA hw hcell hd =>
          have hlen := hw row (List.mem_of_getElem? hrow)
          refine ⟨.pointer (some ⟨b, (o + i.toNat * sz) + 0, none⟩), ?_, .q row 0 b (o + i.toNat * sz) (fun k => cell i.toNat k) hb' hA (fun k d hk => ?_) (fun k d hk => hd i.toNat row k d hrow hk), .q _ _⟩
          · have hd' := slice_desc ht hτ hk
            simp only [Instr.indexAt, asIntOf, Sem.run_bind, Sem.run_pure, Result.andThen_ok, hd', c2, c3, and_self, if_true, he.sizeOf, c1, add_none, Nat.add_zero]
          · rw [Nat.add_assoc]; exact hcell i.toNat row k d hrow hk
    · cases h
  · next m e n sz a j k i hk =>
    split at h
    · next hc =>
      cases h
      cases hi
      cases hb
      next hn =>
      have he := ht _ _ (elemV_array hτ hk hε)
      cases hx
      refine ⟨_, ?_, .p n sz a (j + i.toNat * ε.size), .p _ _ _ _ hn⟩
      have hd := array_desc ht hτ hk
      simp only [Instr.indexAt, asIntOf, Instr.sureAddr, Sem.run_bind, Sem.run_pure, Result.andThen_ok, hd, hc, and_self, if_true, he.sizeOf, add_none, Nat.add_assoc]
    · cases h
  · cases h

theorem index_sound (ht : TabOk P tab) {t : TypeId} {x ix v : V} {A : Nat → Prop} {ids : Nat → Nat × Nat} {w : World} {vx vi : Value} (hx : RepV A ids w x vx) (hi : RepV A ids w ix vi) (h : indexV tab t x ix = some v)
    {nx : Nm} (hb : x.Below nx) : ∃ val, (Instr.index t vx vi).run P w = .ok val w ∧ RepV A ids w v val ∧ v.Below nx := by
  unfold indexV at h
  rw [Option.bind_eq_some_iff] at h
  obtain ⟨τ, hτ, h⟩ := h
  rw [Option.bind_eq_some_iff] at h
  obtain ⟨ε, hε, h⟩ := h
  split at h
  · next m e xs k i hk =>
    split at h
    · next hc =>
      cases hi
      have he := ht _ _ (elemV_array hτ hk hε)
      cases hx with
      | agg _ arr hs hr =>
        cases hb with
        | agg _ hb =>
          obtain ⟨val, p1, p2⟩ := part_sound he hs hr h hb
          refine ⟨val, ?_, p2⟩
          have hd := array_desc ht hτ hk
          simp only [Instr.index, asIntOf, Sem.run_bind, Sem.run_pure, Result.andThen_ok, hd, hc, and_self, if_true, he.sizeOf]
          exact p1
    · cases h
  · cases h

/-! ### len -/
theorem len_sound (ht : TabOk P tab) {F : Nat → Prop} {ids : Nat → Nat × Nat} {w : World} {h : Hp} {nx : Nm} (hh : RepH F ids w h nx) {t : TypeId} {τ : Ty} (hτ : tab t = some τ) {x : V} {vx : Value} {n : Nat}
    (hx : RepV (Avoid F h ids) ids w x vx) (hl : lenV h τ.kind x = some n) (T : TypeId) : (Builtin.len_ #[t] T #[vx]).run P w = .ok (.int .i64 n) w := by
  obtain ⟨d, h1, _, hf⟩ := (ht t τ hτ).desc
  generalize τ.agg = g at hf
  generalize τ.kind = k at hf hl
  cases hf <;> simp only [lenV, reduceCtorEq] at hl
  case slice e =>
    split at hl
    · cases hl; cases hx; simp [Builtin.len_, h1, goInt]
    · cases hl; cases hx with
      | ac0 => simp [Builtin.len_, h1, goInt]
      | ac1 _ _ _ _ h0 hx => cases hx; simp [Builtin.len_, h1, goInt]
    · cases hl; cases hx with
      | lst _ _ _ _ hd _ => cases hd <;> simp [Builtin.len_, h1, goInt]
    · cases hl; cases hx; simp [Builtin.len_, h1, goInt]
    · cases hl
  case map k e =>
    split at hl
    · next m =>
      split at hl
      · next es hm =>
        cases hl; cases hx
        obtain ⟨ar, c, b1, b2, _⟩ := hh.blk m _ hm
        have hg : (getObj (ids m).1).run P w = .ok (.map ar c) w := by simp [getObj, Sem.run, b1]
        simp [Builtin.len_, h1, goInt, hg, b2]
      · cases hl
    · cases hl
end
end Go.Proofs.Ytmihhkcbbdpnaaa.Abs
