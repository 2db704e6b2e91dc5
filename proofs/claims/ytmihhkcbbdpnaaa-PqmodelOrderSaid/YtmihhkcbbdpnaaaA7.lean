/- The abstract machine, part 7: cuts of slices, composite values, append. -/
import Derived.Test.YtmihhkcbbdpnaaaA6
namespace Go.Proofs.Ytmihhkcbbdpnaaa.Abs
section
variable {P : Program} {tab : Tab}

theorem bound1_sound {A : Nat → Prop} {ids : Nat → Nat × Nat} {w : World} {y y' dflt a : Nat} {o : Option V} {vo : Option Value} (ho : ∀ x v, o = some x → vo = some v → RepV A ids w x v) (e : o.isSome = vo.isSome) (hy : y ≤ y')
    (h : bound1 y dflt o = some a) (code : BoundsCode) : (match vo with | some v => Instr.sliceBound v y' code | none => pure dflt).run P w = .ok a w ∧ (o.isSome = true → a ≤ y) ∧ (o = none → a = dflt) := by
  cases o with
  | none => cases vo with
    | none => cases h; exact ⟨rfl, by simp, fun _ => rfl⟩
    | some v => simp at e
  | some x => cases vo with
    | none => simp at e
    | some v =>
      have hr := ho x v rfl rfl
      unfold bound1 at h
      split at h
      · next heq => cases heq
      · next k i heq =>
        cases heq
        split at h
        · next hi => cases h; cases hr; refine ⟨?_, fun _ => by omega, by simp⟩; simp only [Instr.sliceBound, asIntOf, Sem.run_bind, Sem.run_pure, Result.andThen_ok]; rw [if_pos (by omega)]; rfl
        · cases h
      · cases h

theorem bound_sound {A : Nat → Prop} {ids : Nat → Nat × Nat} {w : World} {len cap a b : Nat} {lo hi : Option V} {vlo vhi : Option Value} (hlo : ∀ x v, lo = some x → vlo = some v → RepV A ids w x v) (hhi : ∀ x v, hi = some x → vhi = some v → RepV A ids w x v)
    (e1 : lo.isSome = vlo.isSome) (e2 : hi.isSome = vhi.isSome) (hc : len ≤ cap) (h : bound len lo hi = some (a, b)) :
    (Instr.sliceBounds true len cap vlo vhi none).run P w = .ok (a, b, cap) w ∧ a ≤ b ∧ b ≤ len := by
  unfold bound at h
  rw [Option.bind_eq_some_iff] at h
  obtain ⟨b', hb, h⟩ := h
  rw [Option.map_eq_some_iff] at h
  obtain ⟨a', ha, h⟩ := h
  simp only [Prod.mk.injEq] at h
  obtain ⟨rfl, rfl⟩ := h
  obtain ⟨h1, h2, h3⟩ := bound1_sound (P := P) hhi e2 hc hb .sliceAcap
  obtain ⟨h4, h5, h6⟩ := bound1_sound (P := P) hlo e1 (Nat.le_refl b') ha .sliceB
  have hb' : b' ≤ len := by
    cases hi with
    | none => rw [h3 rfl]; exact Nat.le_refl _
    | some x => exact h2 rfl
  have ha' : a' ≤ b' := by
    cases lo with
    | none => rw [h6 rfl]; exact Nat.zero_le _
    | some x => exact h5 rfl
  refine ⟨?_, ha', hb'⟩
  unfold Instr.sliceBounds
  cases vhi <;> cases vlo <;> simp_all

theorem sameInt_some {hi mx : Option V} (h : sameInt hi mx = true) : ∃ k k' n, hi = some (.c (.int k n)) ∧ mx = some (.c (.int k' n)) := by
  unfold sameInt at h
  split at h
  · simp only [decide_eq_true_eq] at h; subst h; exact ⟨_, _, _, rfl, rfl⟩
  · cases h
/-- the bounds of s[a:b:b] -/
theorem bound_sound3 {A : Nat → Prop} {ids : Nat → Nat × Nat} {w : World} {len cap a b : Nat} {lo hi mx : Option V} {vlo vhi vmx : Option Value} (hlo : ∀ x v, lo = some x → vlo = some v → RepV A ids w x v) (hhi : ∀ x v, hi = some x → vhi = some v → RepV A ids w x v) (hmx : ∀ x v, mx = some x → vmx = some v → RepV A ids w x v)
    (e1 : lo.isSome = vlo.isSome) (e2 : hi.isSome = vhi.isSome) (e3 : mx.isSome = vmx.isSome) (hc : len ≤ cap) (hs : sameInt hi mx = true) (h : bound len lo hi = some (a, b)) :
    (Instr.sliceBounds true len cap vlo vhi vmx).run P w = .ok (a, b, b) w ∧ a ≤ b ∧ b ≤ len := by
  obtain ⟨k, k', n, rfl, rfl⟩ := sameInt_some hs
  cases vhi with
  | none => cases e2
  | some u =>
  cases vmx with
  | none => cases e3
  | some u' =>
  have h1 := hhi _ _ rfl rfl
  have h2 := hmx _ _ rfl rfl
  cases h1; cases h2
  unfold bound at h
  rw [Option.bind_eq_some_iff] at h
  obtain ⟨b', hb', h⟩ := h
  rw [Option.map_eq_some_iff] at h
  obtain ⟨a', ha', he⟩ := h
  simp only [Prod.mk.injEq] at he
  obtain ⟨rfl, rfl⟩ := he
  simp only [bound1] at hb'
  split at hb'
  case isFalse => cases hb'
  next hb =>
  cases hb'
  obtain ⟨b0, b1⟩ := hb
  cases lo with
  | none =>
    cases vlo with
    | some _ => cases e1
    | none =>
    cases ha'
    refine ⟨?_, Nat.zero_le _, by omega⟩
    have k1 : 0 ≤ n ∧ n ≤ (cap : Int) := by omega
    have k2 : 0 ≤ n ∧ n ≤ (n.toNat : Int) := by omega
    simp only [Instr.sliceBounds, Instr.sliceBound, asIntOf, Sem.run_bind, Sem.run_pure, Result.andThen_ok, if_pos k1, if_pos k2]
  | some x =>
    cases vlo with
    | none => cases e1
    | some ux =>
    have h3 := hlo _ _ rfl rfl
    unfold bound1 at ha'
    split at ha'
    · cases ‹some x = none›
    · next kx ix hx =>
      cases hx
      cases h3
      split at ha'
      case isFalse => cases ha'
      next hq =>
      cases ha'
      refine ⟨?_, by omega, by omega⟩
      have k1 : 0 ≤ n ∧ n ≤ (cap : Int) := by omega
      have k2 : 0 ≤ n ∧ n ≤ (n.toNat : Int) := by omega
      simp only [Instr.sliceBounds, Instr.sliceBound, asIntOf, Sem.run_bind, Sem.run_pure, Result.andThen_ok, if_pos k1, if_pos k2, if_pos hq, Option.isSome_some, if_true]
    · cases ha'

theorem slice_sound (ht : TabOk P tab) {A : Nat → Prop} {ids : Nat → Nat × Nat} {w : World} {t : TypeId} {x v : V} {vx : Value} {lo hi mx : Option V} {vlo vhi vmx : Option Value} (hx : RepV A ids w x vx)
    (hlo : ∀ x v, lo = some x → vlo = some v → RepV A ids w x v) (hhi : ∀ x v, hi = some x → vhi = some v → RepV A ids w x v) (hmx : ∀ x v, mx = some x → vmx = some v → RepV A ids w x v)
    (e1 : lo.isSome = vlo.isSome) (e2 : hi.isSome = vhi.isSome) (e3 : mx.isSome = vmx.isSome) {nx : Nm} (hb : x.Below nx) (h : sliceV tab t x lo hi mx = some v) :
    ∃ val, (Instr.sliceAt t vx vlo vhi vmx).run P w = .ok val w ∧ RepV A ids w v val ∧ v.Below nx := by
  unfold sliceV at h
  rw [Option.bind_eq_some_iff] at h
  obtain ⟨τ, hτ, h⟩ := h
  rw [Option.bind_eq_some_iff] at h
  obtain ⟨ε, hε, h⟩ := h
  have hnone : mx.isNone = true → vmx = none := fun hm => by cases vmx <;> cases mx <;> simp_all
  split at h
  · next e n sz off len hk =>
    have hd := slice_desc ht hτ hk
    have he := ht _ _ (elemV_slice hτ hk hε)
    split at h
    · next hc =>
      obtain ⟨c1, c2⟩ := hc
      rw [Option.map_eq_some_iff] at h
      obtain ⟨⟨a, b⟩, hbd, rfl⟩ := h
      have hm := hnone c2
      subst hm
      cases hb
      next hn =>
      cases hx with
      | sl _ _ _ _ cap ad hl hcc =>
        obtain ⟨p1, p2, p3⟩ := bound_sound (P := P) hlo hhi e1 e2 hl hbd
        refine ⟨.slice (if cap = a then ad else ad.map (·.add (a * ε.size))) (b - a) (cap - a), ?_, ?_, .sl _ _ _ _ hn⟩
        · simp only [Instr.sliceAt, Sem.run_bind, hd, Result.andThen_ok, Instr.slice, p1, he.sizeOf, Sem.run_pure]
        · refine .sl _ _ _ _ _ _ (by omega) fun h0 => ?_
          have hca : cap ≠ a := by omega
          obtain ⟨arr, T, hs, rfl, ha⟩ := hcc (by omega)
          refine ⟨arr, T, hs, ?_, by rw [show off + a + (cap - a) = off + cap by omega]; exact ha⟩
          rw [if_neg hca, Option.map_some, add_none, c1, Nat.add_mul, Nat.add_assoc]
    · cases h
  · next e n sz len hk =>
    have hd := slice_desc ht hτ hk
    have he := ht _ _ (elemV_slice hτ hk hε)
    split at h
    case isFalse => cases h
    next hc =>
    obtain ⟨c1, c2⟩ := hc
    rw [Option.map_eq_some_iff] at h
    obtain ⟨⟨a, b⟩, hbd, rfl⟩ := h
    have hm := hnone c2
    subst hm
    cases hb
    next hn =>
    have hx' : ∃ cap ad, vx = .slice ad len cap ∧ len ≤ cap ∧ (cap ≠ 0 → ∃ (arr : Array Value) (T : TypeId), w.heap[(ids n).1]? = some (.cells arr T (0, 0)) ∧ ad = some ⟨(ids n).1, (ids n).2, none⟩ ∧ (ids n).2 + cap * sz ≤ arr.size) := by
      cases hx with
      | ac0 => exact ⟨0, _, rfl, Nat.le_refl _, fun h => absurd rfl h⟩
      | ac1 _ _ _ _ h0 hx => cases hx with | sl _ _ _ _ cap ad hl hcc => exact ⟨cap, ad, rfl, hl, fun h => by obtain ⟨arr, T, h1, h2, h3⟩ := hcc h; exact ⟨arr, T, h1, by simpa using h2, by simpa using h3⟩⟩
    obtain ⟨cap, ad, rfl, hl, hcc⟩ := hx'
    obtain ⟨p1, p2, p3⟩ := bound_sound (P := P) hlo hhi e1 e2 hl hbd
    refine ⟨.slice (if cap = a then ad else ad.map (·.add (a * ε.size))) (b - a) (cap - a), ?_, ?_, .sl _ _ _ _ hn⟩
    · simp only [Instr.sliceAt, Sem.run_bind, hd, Result.andThen_ok, Instr.slice, p1, he.sizeOf, Sem.run_pure]
    · refine .sl _ _ _ _ _ _ (by omega) fun h0 => ?_
      have hca : cap ≠ a := by omega
      obtain ⟨arr, T, hs, rfl, ha⟩ := hcc (by omega)
      refine ⟨arr, T, hs, ?_, by rw [show a + (cap - a) = cap by omega]; exact ha⟩
      rw [if_neg hca, Option.map_some, add_none, c1]
  · next e sz rows clip hk =>
    have hd := slice_desc ht hτ hk
    have he := ht _ _ (elemV_slice hτ hk hε)
    split at h
    case isFalse => cases h
    next c1 =>
    have main : ∀ (a b : Nat) (cl : Bool), a ≤ b → b ≤ rows.length → (∀ ad cap, vx = .slice ad rows.length cap → rows.length ≤ cap → ∃ m, (Instr.sliceBounds true rows.length cap vlo vhi vmx).run P w = .ok (a, b, m) w ∧ b ≤ m ∧ m ≤ cap ∧ (cl = true → m = b)) →
        ∃ val, (Instr.sliceAt t vx vlo vhi vmx).run P w = .ok val w ∧ RepV A ids w (.lst sz ((rows.drop a).take (b - a)) cl) val ∧ (V.lst sz ((rows.drop a).take (b - a)) cl).Below nx := by
      intro a b cl p2 p3 hrun
      cases hx with
      | lst _ _ _ _ hrd hcl =>
        have hlen : ∃ ad cap, vx = .slice ad rows.length cap ∧ rows.length ≤ cap := by
          cases hrd with
          | emp _ a cap => exact ⟨a, cap, rfl, by simp⟩
          | lst _ _ b o cap cell hcap => exact ⟨_, cap, rfl, hcap⟩
        obtain ⟨ad, cap, rfl, hcap⟩ := hlen
        obtain ⟨m, p1, q1, q2, q3⟩ := hrun ad cap rfl hcap
        refine ⟨.slice (if m = a then ad else ad.map (·.add (a * ε.size))) (b - a) (m - a), ?_, ?_, .lst _ _ _⟩
        · simp only [Instr.sliceAt, Sem.run_bind, hd, Result.andThen_ok, Instr.slice, p1, he.sizeOf, Sem.run_pure]
        · have hl' : ((rows.drop a).take (b - a)).length = b - a := by simp; omega
          refine .lst _ _ _ _ ?_ ?_
          · generalize hR : (rows.drop a).take (b - a) = R at hl' ⊢
            cases R with
            | nil => simp at hl'; rw [← hl']; exact .emp _ _ _
            | cons r0 R0 =>
              cases hrd with
              | emp => simp at hR
              | lst _ _ bb o _ cell hcap hbb hA hw hcell hdd =>
                have hne : m ≠ a := by simp at hl'; omega
                rw [if_neg hne]
                simp only [Option.map_some, add_none]
                rw [← hl']
                have hget : ∀ (i : Nat) (row : List D), (r0 :: R0)[i]? = some row → rows[a + i]? = some row := by
                  intro i row hi
                  rw [← hR] at hi
                  have hlt : i < b - a := by have := (List.getElem?_eq_some_iff.1 hi).1; simp at this; omega
                  rwa [List.getElem?_take_of_lt hlt, List.getElem?_drop] at hi
                refine .lst sz (r0 :: R0) bb (o + a * ε.size) (m - a) (fun i j => cell (a + i) j) (by omega) hbb hA (fun row hrow => ?_) (fun i row j d hi hj => ?_) (fun i row j d hi hj => hdd _ row j d (hget i row hi) hj)
                · obtain ⟨i, hi⟩ := List.getElem?_of_mem hrow
                  exact hw row (List.mem_of_getElem? (hget i row hi))
                · have := hcell (a + i) row j d (hget i row hi) hj
                  rw [c1, show o + a * sz + (i * sz + j) = o + ((a + i) * sz + j) by rw [Nat.add_mul]; omega]
                  exact this
          · intro hcl'
            exact ⟨_, by rw [hl', q3 hcl']⟩
    split at h
    · next c2 =>
      rw [Option.map_eq_some_iff] at h
      obtain ⟨⟨a, b⟩, hbd, rfl⟩ := h
      have hm := hnone c2
      subst hm
      have hcl2 : ∀ ad cap, vx = .slice ad rows.length cap → clip = true → cap = rows.length := by
        intro ad cap e hcl
        cases hx with
        | lst _ _ _ _ hrd hc =>
          obtain ⟨a', ha'⟩ := hc hcl
          rw [ha'] at e
          simp only [Value.slice.injEq] at e
          exact e.2.2.symm
      have hbb : a ≤ b ∧ b ≤ rows.length := by
        obtain ⟨_, p2, p3⟩ := bound_sound (P := P) (cap := rows.length) hlo hhi e1 e2 (Nat.le_refl _) hbd
        exact ⟨p2, p3⟩
      refine main a b _ hbb.1 hbb.2 fun ad cap e hcap => ?_
      obtain ⟨p1, p2, p3⟩ := bound_sound (P := P) hlo hhi e1 e2 hcap hbd
      refine ⟨cap, p1, by omega, Nat.le_refl _, fun hcl' => ?_⟩
      simp only [Bool.and_eq_true, decide_eq_true_eq] at hcl'
      rw [hcl2 ad cap e hcl'.1, hcl'.2]
    · split at h
      case isFalse => cases h
      next c2 =>
      rw [Option.map_eq_some_iff] at h
      obtain ⟨⟨a, b⟩, hbd, rfl⟩ := h
      have hbb : a ≤ b ∧ b ≤ rows.length := by
        obtain ⟨_, p2, p3⟩ := bound_sound3 (P := P) (cap := rows.length) hlo hhi hmx e1 e2 e3 (Nat.le_refl _) c2 hbd
        exact ⟨p2, p3⟩
      refine main a b _ hbb.1 hbb.2 fun ad cap e hcap => ?_
      obtain ⟨p1, p2, p3⟩ := bound_sound3 (P := P) hlo hhi hmx e1 e2 e3 hcap c2 hbd
      exact ⟨b, p1, Nat.le_refl _, by omega, fun _ => rfl⟩
  · next e hk =>
    have hd := slice_desc ht hτ hk
    have he := ht _ _ (elemV_slice hτ hk hε)
    split at h
    · next c2 =>
      rw [Option.map_eq_some_iff] at h
      obtain ⟨⟨a, b⟩, hbd, rfl⟩ := h
      cases hx
      have hrun : (Instr.sliceBounds true 0 0 vlo vhi vmx).run P w = .ok (0, 0, 0) w := by
        rcases c2 with c2 | c2
        · have hm := hnone c2
          subst hm
          obtain ⟨p1, p2, p3⟩ := bound_sound (P := P) (cap := 0) hlo hhi e1 e2 (Nat.le_refl _) hbd
          obtain rfl : b = 0 := by omega
          obtain rfl : a = 0 := by omega
          exact p1
        · obtain ⟨p1, p2, p3⟩ := bound_sound3 (P := P) (cap := 0) hlo hhi hmx e1 e2 e3 (Nat.le_refl _) c2 hbd
          obtain rfl : b = 0 := by omega
          obtain rfl : a = 0 := by omega
          exact p1
      refine ⟨.slice none 0 0, ?_, .c _, .c _⟩
      simp only [Instr.sliceAt, Sem.run_bind, hd, Result.andThen_ok, Instr.slice, hrun, he.sizeOf, Sem.run_pure]
      rfl
    · cases h
  · cases h

/-! ### composite values -/
inductive All2 {α β : Type} (R : α → β → Prop) : List α → List β → Prop
  | nil : All2 R [] []
  | cons {a : α} {b : β} {l : List α} {m : List β} : R a b → All2 R l m → All2 R (a :: l) (b :: m)

/-- cells that stand for abstract cells -/
def Stands (A : Nat → Prop) (ids : Nat → Nat × Nat) (w : World) (xs : List V) (arr : Array Value) : Prop :=
  arr.size = xs.length ∧ ∀ (i : Nat) (x : V) (v : Value), xs[i]? = some x → arr[i]? = some v → RepV A ids w x v

theorem foldl_splice (vs : List Value) : ∀ (arr : Array Value) (off k : Nat), ((vs.zipIdx k).foldl (fun cs (c, j) => cs.setIfInBounds (off + j) c) arr) = splice arr (off + k) vs := by
  induction vs with
  | nil => intro arr off k; rfl
  | cons v vs ih => intro arr off k; simp only [List.zipIdx_cons, List.foldl_cons, splice]; rw [ih]; rfl

theorem Stands.splice {A : Nat → Prop} {ids : Nat → Nat × Nat} {w : World} {cells xs : List V} {arr vs : Array Value} {off : Nat} (h : Stands A ids w cells arr) (hv : Stands A ids w xs vs) (ho : off + xs.length ≤ cells.length) :
    Stands A ids w (spliceV cells off xs) (Abs.splice arr off vs.toList) := by
  obtain ⟨h1, h2⟩ := h
  obtain ⟨v1, v2⟩ := hv
  refine ⟨by rw [splice_size, spliceV_length _ _ _ ho, h1], fun i x v hx hv => ?_⟩
  rw [spliceV_get _ _ _ _ ho] at hx
  rw [splice_get _ _ _ _ (by simp [v1, h1]; exact ho)] at hv
  simp only [Array.length_toList, v1] at hv
  split at hx
  · next hc => rw [if_pos hc] at hv; exact v2 _ x v hx (by simpa using hv)
  · next hc => rw [if_neg hc] at hv; exact h2 _ x v hx hv

theorem fill_sound {A : Nat → Prop} {ids : Nat → Nat × Nat} {w : World} {place : Nat → Option (Nat × Nat)} : ∀ (parts : List (Nat × V)) (vparts : List (Nat × Value)) (cells cs : List V) (arr : Array Value),
    All2 (fun p q => p.1 = q.1 ∧ RepV A ids w p.2 q.2) parts vparts → Stands A ids w cells arr → fillV place cells parts = some cs →
    ∃ arr', Instr.fill place arr vparts = some arr' ∧ Stands A ids w cs arr' := by
  intro parts
  induction parts with
  | nil =>
    intro vparts cells cs arr hp hs h
    cases hp
    simp only [fillV, Option.some.injEq] at h
    subst h
    exact ⟨arr, rfl, hs⟩
  | cons p parts ih =>
    intro vparts cells cs arr hp hs h
    cases hp with
    | cons hq hp =>
      next q vparts =>
      obtain ⟨i, x⟩ := p
      obtain ⟨i', v⟩ := q
      obtain ⟨rfl, hr⟩ := hq
      simp only [fillV, Option.bind_eq_some_iff] at h
      obtain ⟨⟨off, size⟩, hpl, xs, hxs, h⟩ := h
      dsimp only at h hr
      split at h
      · next hc =>
        obtain ⟨s1, s2⟩ := hr.cells hxs
        obtain ⟨arr', a1, a2⟩ := ih vparts _ cs _ hp (hs.splice ⟨s1, s2⟩ hc.2) h
        refine ⟨arr', ?_, a2⟩
        rw [Instr.fill]
        simp only [hpl]
        rw [if_neg (by simp only [s1, ne_eq, Bool.or_eq_true, decide_eq_true_eq]; rw [hs.1]; omega)]
        have := foldl_splice v.cells.toList arr off 0
        rw [← Array.foldl_toList, Array.toList_zipIdx] 
        simp only [Nat.add_zero] at this
        rw [this]
        exact a1
      · cases h

theorem fillV_below {m : Nm} {place : Nat → Option (Nat × Nat)} : ∀ (parts : List (Nat × V)) (cells cs : List V), (∀ p ∈ parts, p.2.Below m) → (∀ x ∈ cells, x.Below m) → fillV place cells parts = some cs → ∀ x ∈ cs, x.Below m := by
  intro parts
  induction parts with
  | nil => intro cells cs _ hc h; simp only [fillV, Option.some.injEq] at h; subst h; exact hc
  | cons p parts ih =>
    intro cells cs hp hc h
    obtain ⟨i, x⟩ := p
    simp only [fillV, Option.bind_eq_some_iff] at h
    obtain ⟨q, _, xs, hxs, h⟩ := h
    split at h
    · refine ih _ cs (fun p hp' => hp p (by simp [hp'])) (fun y hy => ?_) h
      rcases spliceV_mem hy with hy | hy
      · exact hc y hy
      · exact V.cells_below (hp (i, x) (by simp)) hxs y hy
    · cases h
end
end Go.Proofs.Ytmihhkcbbdpnaaa.Abs
