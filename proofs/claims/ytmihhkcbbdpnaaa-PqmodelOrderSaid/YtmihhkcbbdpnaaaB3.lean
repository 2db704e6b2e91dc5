/- The abstract machine, part 15: the whole of a function. -/
import Derived.Test.YtmihhkcbbdpnaaaB2
namespace Go.Proofs.Ytmihhkcbbdpnaaa.Abs
set_option linter.unusedVariables false
set_option linter.unusedSimpArgs false
section
variable {P : Program} {tab : Tab} {M0 : Nm}

def condB (v : V) (X Y : Prop) : Prop :=
  match v with
  | .c (.bool x) => (x = true → X) ∧ (x = false → Y)
  | _ => False

def awp (P : Program) (tab : Tab) (M0 : Nm) : Code → (Ex → St → Prop) → St → Prop
  | .skip, Q, s => Q .normal s
  | .label _, Q, s => Q .normal s
  | .seq c d, Q, s => awp P tab M0 c (thenB (awp P tab M0 d Q) Q) s
  | .cond x c d, Q, s => condB (evS s.t x) (awp P tab M0 c Q s) (awp P tab M0 d Q s)
  | .block id c, Q, s => awp P tab M0 c (blockB id Q) s
  | .exit i, Q, s => Q (.exit i) s
  | .ret, Q, s => Q .ret s
  | .region id ops draw, Q, s => match draw with
    | false => M0.le (Lt s.b) ∧ awpOps P tab ops s.n ops.toList s.b s.t s.h fun t h b => Q .normal ⟨t, h, b, s.n⟩
    | true => AWP P M0 (.region id ops true) Q s
  | c, Q, s => AWP P M0 c Q s

theorem awp_sound (ht : TabOk P tab) : ∀ (c : Code) (Q : Ex → St → Prop) (s : St), awp P tab M0 c Q s → AWP P M0 c Q s := by
  intro c
  induction c with
  | skip => exact fun Q s h => awp_skip h
  | label l => exact fun Q s h => awp_label h
  | seq c d ih1 ih2 =>
    intro Q s h
    refine awp_seq (AWP.mono (ih1 _ s h) fun x s' hx => ?_)
    cases x with
    | normal => exact ih2 Q s' hx
    | _ => exact hx
  | cond x c d ih1 ih2 =>
    intro Q s h
    simp only [awp, condB] at h
    split at h
    · next b hb => exact awp_cond hb (fun e => ih1 Q s (h.1 e)) (fun e => ih2 Q s (h.2 e))
    · exact h.elim
  | block id c ih => exact fun Q s h => awp_block (ih _ s h)
  | exit i => exact fun Q s h => awp_exit h
  | ret => exact fun Q s h => awp_ret h
  | region id ops draw =>
    intro Q s h
    cases draw with
    | false => exact awp_region ht h.1 h.2
    | true => exact h
  | _ => exact fun Q s h => h

/-! ### what is handed back -/
/-- data without names, read off a value of the state -/
inductive FD (h : Hp) : D → V → Prop
  | c (v : Value) (h1 : v.oneCell' = true) : FD h (.c v) (.c v)
  | lst (sz : Nat) (rows : List (List D)) (clip : Bool) : FD h (.lst sz rows) (.lst sz rows clip)
  | nil (sz : Nat) : FD h (.lst sz []) (.c (.slice none 0 0))
  | ac (n sz len : Nat) (r : List (List D)) (hn : h n = some (.dat sz r)) (hl : len = r.length) : FD h (.lst sz r) (.ac n sz len)
  | sd (n sz off len : Nat) (r rows : List (List D)) (hn : h n = some (.dat sz r)) (hl : off + len ≤ r.length) (hr : rows = (r.drop off).take len) : FD h (.lst sz rows) (.sl n sz off len)
  | sl (n sz off len : Nat) (r : List (List V)) (rows : List (List D)) (vr : Nat → List V) (hn : h n = some (.rows sz r)) (hl : off + len ≤ r.length) (hr : rows.length = len)
      (h1 : ∀ (i : Nat) (row : List D), rows[i]? = some row → r[off + i]? = some (vr i) ∧ row.length = (vr i).length)
      (h2 : ∀ (i : Nat) (row : List D) (j : Nat) (d : D) (x : V), rows[i]? = some row → row[j]? = some d → (vr i)[j]? = some x → FD h d x) : FD h (.lst sz rows) (.sl n sz off len)

theorem FD.toV {h : Hp} (d : D) (hl : d.leaf = true) : FD h d d.toV := by
  cases d with
  | c v => exact .c v hl
  | lst sz rows => exact .lst sz rows false
theorem toV_rep {A A' : Nat → Prop} {ids : Nat → Nat × Nat} {w : World} (hA : ∀ b, A' b → A b) {d : D} {v : Value} (hl : d.leaf = true) (h : RepV A ids w d.toV v) : RepD A' w d v := by
  cases d with
  | c u => cases h; exact .c _ hl
  | lst sz rows => cases h with | lst _ _ _ _ hd _ => exact hd.mono (Goes.refl A w) (fun b _ x => hA b x)

theorem RepR.lst {A A' : Nat → Prop} {ids : Nat → Nat × Nat} {w : World} (hA : ∀ b, A' b → A b) {p : Nat × Nat} {sz off len cap : Nat} {r : List (List D)} {ad : Option Addr} (h : r ≠ [] → RepR A ids w p sz (toVs r)) (hlv : leaves r) (hp : r ≠ [] → ¬ A' p.1) (hl : off + len ≤ r.length) (hc : len ≤ cap)
    (ha : cap ≠ 0 → ad = some ⟨p.1, p.2 + off * sz, none⟩) : RepD A' w (.lst sz ((r.drop off).take len)) (.slice ad len cap) := by
  have hlen : ((r.drop off).take len).length = len := by simp; omega
  by_cases h0 : len = 0
  · subst h0; simpa using RepD.emp sz ad cap
  · have hne : r ≠ [] := by rintro rfl; simp at hl; omega
    obtain rfl := ha (by omega)
    obtain ⟨arr, T, b1, b2, b3, b4⟩ := h hne
    have hget : ∀ (i : Nat) (row : List D), ((r.drop off).take len)[i]? = some row → r[off + i]? = some row := by
      intro i row hi
      have hlt : i < len := by have := (List.getElem?_eq_some_iff.1 hi).1; omega
      rwa [List.getElem?_take_of_lt hlt, List.getElem?_drop] at hi
    have key : ∀ (i : Nat) (row : List D) (j : Nat) (d : D), ((r.drop off).take len)[i]? = some row → row[j]? = some d → ∃ u, arr[p.2 + off * sz + (i * sz + j)]? = some u ∧ RepD A' w d u := by
      intro i row j d hi hj
      have hr := hget i row hi
      obtain ⟨u, hu, hrep⟩ := b4 (off + i) (row.map D.toV) j d.toV (by rw [toVs_get, hr]; rfl) (by simp [hj])
      refine ⟨u, by rw [← hu]; congr 1; rw [Nat.add_mul]; omega, toV_rep hA (List.all_eq_true.1 (hlv row (List.mem_of_getElem? hr)) d (List.mem_of_getElem? hj)) hrep⟩
    have := RepD.lst (A := A') (w := w) sz ((r.drop off).take len) p.1 (p.2 + off * sz) cap (fun i j => (arr[p.2 + off * sz + (i * sz + j)]?).getD default) (by omega) (Array.getElem?_eq_some_iff.1 b1).1 (hp hne) (fun row hrow => by
      obtain ⟨i, hi⟩ := List.getElem?_of_mem hrow
      have := b3 (row.map D.toV) (List.mem_of_getElem? (i := off + i) (by rw [toVs_get, hget i row hi]; rfl))
      simpa using this) (fun i row j d hi hj => by
      obtain ⟨u, hu, _⟩ := key i row j d hi hj
      rw [cell_of b1, hu]; rfl) (fun i row j d hi hj => by
      obtain ⟨u, hu, hrep⟩ := key i row j d hi hj
      rw [hu]; exact hrep)
    rwa [hlen] at this

theorem dat_out {F : Nat → Prop} {ids : Nat → Nat × Nat} {w : World} {h : Hp} {M : Nm} (hh : RepH F ids w h M) {n sz : Nat} {r : List (List D)} (hn : h n = some (.dat sz r)) (hr : r ≠ []) : ¬ F (ids n).1 := hh.out n _ hn (dat_real hr)
/-- a slice of a block of data, as data -/
theorem sd_rep {F A' : Nat → Prop} {ids : Nat → Nat × Nat} {w : World} {h : Hp} {M : Nm} (hh : RepH F ids w h M) (hA : ∀ b, A' b → Avoid F h ids b) {n sz off len : Nat} {r : List (List D)} (hn : h n = some (.dat sz r)) (hp : r ≠ [] → ¬ A' (ids n).1) (hl : off + len ≤ r.length) {v : Value}
    (hv : RepV (Avoid F h ids) ids w (.sl n sz off len) v) : RepD A' w (.lst sz ((r.drop off).take len)) v := by
  cases hv with
  | sl _ _ _ _ cap ad hc hcc => exact RepR.lst hA (hh.blk n _ hn).1 (hh.blk n _ hn).2 hp hl hc fun h0 => by obtain ⟨_, _, _, h2, _⟩ := hcc h0; exact h2
theorem ac_rep {F A' : Nat → Prop} {ids : Nat → Nat × Nat} {w : World} {h : Hp} {M : Nm} (hh : RepH F ids w h M) (hA : ∀ b, A' b → Avoid F h ids b) {n sz len : Nat} {r : List (List D)} (hn : h n = some (.dat sz r)) (hp : r ≠ [] → ¬ A' (ids n).1) (hl : len = r.length) {v : Value}
    (hv : RepV (Avoid F h ids) ids w (.ac n sz len) v) : RepD A' w (.lst sz r) v := by
  cases hv with
  | ac0 => have : r = [] := List.length_eq_zero_iff.1 hl.symm
           subst this; exact .emp _ _ _
  | ac1 _ _ _ _ h0 hv =>
    have := sd_rep hh hA hn hp (off := 0) (len := len) (by omega) hv
    rwa [List.drop_zero, List.take_of_length_le (by omega)] at this

theorem FD.sound {F : Nat → Prop} {ids : Nat → Nat × Nat} {w : World} {h : Hp} {M : Nm} (hh : RepH F ids w h M) {d : D} {x : V} (hf : FD h d x) : ∀ v, RepV (Avoid F h ids) ids w x v → RepD F w d v := by
  induction hf with
  | c v h1 => intro u hu; cases hu; exact .c v h1
  | lst sz rows clip => intro u hu; cases hu with | lst _ _ _ _ hd _ => exact hd.mono (Goes.refl (Avoid F h ids) w) (fun _ _ x => .inl x)
  | nil sz => intro u hu; cases hu; exact .emp _ _ _
  | ac n sz len r hn hl => exact fun v hv => ac_rep hh (fun _ x => .inl x) hn (dat_out hh hn) hl hv
  | sd n sz off len r rows hn hl hr => subst hr; exact fun v hv => sd_rep hh (fun _ x => .inl x) hn (dat_out hh hn) hl hv
  | sl n sz off len r rows vr hn hl hr h1 h2 ih =>
    intro u hu
    cases hu with
    | sl _ _ _ _ cap ad hlc hc =>
      obtain ⟨arr, T', b1, b2, b3, b4⟩ := hh.blk n _ hn
      cases rows with
      | nil => simp at hr; subst hr; exact .emp _ _ _
      | cons r0 R =>
        have hpos : 0 < len := by rw [← hr]; simp
        obtain ⟨_, _, _, rfl, _⟩ := hc (by omega)
        rw [← hr]
        have hlen : ∀ row ∈ r0 :: R, row.length = sz := by
          intro row hrow
          obtain ⟨i, hi⟩ := List.getElem?_of_mem hrow
          obtain ⟨e1, e2⟩ := h1 i row hi
          rw [e2]; exact b3 _ (List.mem_of_getElem? e1)
        have key : ∀ (i : Nat) (row : List D) (j : Nat) (d : D), (r0 :: R)[i]? = some row → row[j]? = some d → ∃ u, arr[(ids n).2 + off * sz + (i * sz + j)]? = some u ∧ RepD F w d u := by
          intro i row j d hi hj
          obtain ⟨e1, e2⟩ := h1 i row hi
          have hjl : j < (vr i).length := by rw [← e2]; exact (List.getElem?_eq_some_iff.1 hj).1
          obtain ⟨u, hu, hrep⟩ := b4 (off + i) (vr i) j (vr i)[j] e1 (by simp [hjl])
          refine ⟨u, ?_, ih i row j d _ hi hj (by simp [hjl]) u hrep⟩
          rw [← hu]; congr 1; rw [Nat.add_mul]; omega
        refine .lst sz (r0 :: R) (ids n).1 ((ids n).2 + off * sz) cap (fun i j => (arr[(ids n).2 + off * sz + (i * sz + j)]?).getD default) (by omega) (Array.getElem?_eq_some_iff.1 b1).1 (hh.out n _ hn rfl) hlen ?_ ?_
        · intro i row j d hi hj
          obtain ⟨u, hu, _⟩ := key i row j d hi hj
          rw [cell_of b1, hu]; rfl
        · intro i row j d hi hj
          obtain ⟨u, hu, hrep⟩ := key i row j d hi hj
          rw [hu]; exact hrep

inductive Frz (h : Hp) : V → V → Prop
  | d (d : D) (x : V) (hf : FD h d x) : Frz h d.toV x
  | same (x : V) (hb : x.Below fun _ => False) : Frz h x x
  | sem (r x : V) (hs : ∀ (F : Nat → Prop) (ids : Nat → Nat × Nat) (w : World) (M : Nm), RepH F ids w h M → ∀ v, RepV (Avoid F h ids) ids w x v → ∀ ids' : Nat → Nat × Nat, RepV F ids' w r v) : Frz h r x
  | agg (rs xs : List V) (hl : rs.length = xs.length) (hp : ∀ (i : Nat) (r x : V), rs[i]? = some r → xs[i]? = some x → Frz h r x) : Frz h (.agg rs) (.agg xs)
  | tup (rs xs : List V) (hl : rs.length = xs.length) (hp : ∀ (i : Nat) (r x : V), rs[i]? = some r → xs[i]? = some x → Frz h r x) : Frz h (.tup rs) (.tup xs)

theorem Frz.sound {F : Nat → Prop} {ids ids' : Nat → Nat × Nat} {w : World} {h : Hp} {M : Nm} (hh : RepH F ids w h M) {r x : V} (hf : Frz h r x) : ∀ v, RepV (Avoid F h ids) ids w x v → RepV F ids' w r v := by
  induction hf with
  | d d x hf => intro v hv; exact (hf.sound hh v hv).toV
  | same x hb => intro v hv; exact hv.mono (Goes.refl (Avoid F h ids) w) (fun _ _ x => .inl x) (fun n hn => hn.elim) hb
  | sem r x hs => intro v hv; exact hs F ids w M hh v hv ids'
  | agg rs xs hl hp ih =>
    intro v hv
    cases hv with
    | agg _ arr hs hr =>
      refine .agg _ _ (by rw [hs, hl]) fun i r v hi hv => ?_
      have hlt : i < xs.length := by rw [← hl]; exact (List.getElem?_eq_some_iff.1 hi).1
      exact ih i r xs[i] hi (by simp [hlt]) v (hr i xs[i] v (by simp [hlt]) hv)
  | tup rs xs hl hp ih =>
    intro v hv
    cases hv with
    | tup _ arr hs hr =>
      refine .tup _ _ (by rw [hs, hl]) fun i r v hi hv => ?_
      have hlt : i < xs.length := by rw [← hl]; exact (List.getElem?_eq_some_iff.1 hi).1
      exact ih i r xs[i] hi (by simp [hlt]) v (hr i xs[i] v (by simp [hlt]) hv)

/-! ### results -/
def resB (tab : Tab) (t : Nat → V) (h : Hp) : List ResultVar → (List V → Prop) → Prop
  | [], K => K []
  | .tmp i :: rs, K => resB tab t h rs fun xs => K (t i :: xs)
  | .cell i T :: rs, K => bindP (loadV tab h T (t i)) fun x => resB tab t h rs fun xs => K (x :: xs)

def one (xs : List V) : V :=
  match xs with
  | [x] => x
  | xs => .tup xs

theorem resB_sound (ht : TabOk P tab) {F : Nat → Prop} {ids : Nat → Nat × Nat} {w : World} {M : Nm} {t : Nat → V} {h : Hp} {n : Nat} {a : Act} (hr : RepT F ids w M t h n a) (g : ResultVar → Sem Value) (hg1 : ∀ t, g (.tmp t) = pure (a.tmps.getD t undef)) (hg2 : ∀ x t, g (.cell x t) = (do loadVar t (← asAddr (a.tmps.getD x undef)))) : ∀ (rs : List ResultVar) (K : List V → Prop), resB tab t h rs K →
    ∃ xs vs, K xs ∧ (rs.mapM g).run P w = .ok vs w ∧ vs.length = xs.length ∧
      (∀ (i : Nat) (x : V) (v : Value), xs[i]? = some x → vs[i]? = some v → RepV (Avoid F h ids) ids w x v) ∧ ∀ x ∈ xs, x.Below M := by
  intro rs
  induction rs with
  | nil => intro K h; exact ⟨[], [], h, rfl, rfl, by simp, by simp⟩
  | cons r rs ih =>
    intro K hk
    cases r with
    | tmp i =>
      obtain ⟨xs, vs, k1, k2, k3, k4, k5⟩ := ih _ hk
      refine ⟨t i :: xs, a.tmps.getD i undef :: vs, k1, by simp only [List.mapM_cons, hg1, Sem.run_bind, Sem.run_pure, Result.andThen_ok, k2], by simp [k3], ?_, by simpa using ⟨hr.below i, k5⟩⟩
      intro j x v hx hv
      cases j with
      | zero => simp at hx hv; subst hx; subst hv; have := hr.tmps i; simpa [Array.getD_eq_getD_getElem?] using this
      | succ j => simp at hx hv; exact k4 j x v hx hv
    | cell i T =>
      obtain ⟨x0, hx0, hk⟩ := hk
      obtain ⟨val, p1, p2, p3⟩ := loadV_sound (P := P) ht hr.heap (hr.tmps i) hx0
      obtain ⟨xs, vs, k1, k2, k3, k4, k5⟩ := ih _ hk
      have hp : ∃ ad, a.tmps.getD i undef = .pointer (some ad) := by
        have := hr.tmps i
        unfold loadV at hx0
        rw [Option.bind_eq_some_iff] at hx0
        obtain ⟨τ, _, hx0⟩ := hx0
        generalize a.tmps.getD i undef = u at this
        generalize t i = ti at this hx0
        cases ti <;> simp at hx0 <;> cases this <;> exact ⟨_, rfl⟩
      obtain ⟨ad, had⟩ := hp
      rw [had] at p1
      simp only [Instr.loadAt, Instr.sureAddr, Sem.run_bind, Sem.run_pure, Result.andThen_ok] at p1
      have hasd : (asAddr (a.tmps.getD i undef)).run P w = .ok ad w := by rw [had]; rfl
      refine ⟨x0 :: xs, val :: vs, k1, by simp only [List.mapM_cons, hg2, Sem.run_bind, hasd, Sem.run_pure, Result.andThen_ok, p1, k2], by simp [k3], ?_, by simpa using ⟨p3, k5⟩⟩
      intro j x v hx hv
      cases j with
      | zero => simp at hx hv; subst hx; subst hv; exact p2
      | succ j => simp at hx hv; exact k4 j x v hx hv

theorem results_sound (ht : TabOk P tab) {F : Nat → Prop} {ids : Nat → Nat × Nat} {w : World} {M : Nm} {t : Nat → V} {h : Hp} {n : Nat} {a : Act} (hr : RepT F ids w M t h n a) (fn : Func) (K : V → Prop)
    (hk : resB tab t h fn.results.toList fun xs => K (one xs)) : ∃ x v, K x ∧ (results fn a.tmps).run P w = .ok v w ∧ RepV (Avoid F h ids) ids w x v ∧ x.Below M := by
  obtain ⟨xs, vs, k1, k2, k3, k4, k5⟩ := resB_sound (P := P) ht hr (fun r => match r with | .tmp t => pure (a.tmps.getD t undef) | .cell x t => do loadVar t (← asAddr (a.tmps.getD x undef))) (fun _ => rfl) (fun _ _ => rfl) _ _ hk
  refine ⟨one xs, if hv : vs.toArray.size = 1 then vs.toArray[0]'(by omega) else .tuple vs.toArray, k1, ?_, ?_, ?_⟩
  · have e : results fn a.tmps = (do let vs ← fn.results.mapM (fun r => match r with | .tmp t => pure (a.tmps.getD t undef) | .cell x t => do loadVar t (← asAddr (a.tmps.getD x undef))); pure (if h : vs.size = 1 then vs[0] else .tuple vs)) := by
      unfold results
      congr 1
    rw [e]
    simp only [Sem.run_bind, Array.mapM_eq_mapM_toList, Sem.run_map]
    rw [k2]
    rfl
  · by_cases h1 : xs.length = 1
    · obtain ⟨x, rfl⟩ := List.length_eq_one_iff.1 h1
      obtain ⟨v, rfl⟩ := List.length_eq_one_iff.1 (k3.trans h1)
      simpa [one] using k4 0 x v rfl rfl
    · rw [dif_neg (by simpa [k3] using h1)]
      have : one xs = .tup xs := by
        match xs, h1 with
        | [], _ => rfl
        | [x], h => simp at h
        | x :: y :: l, _ => rfl
      rw [this]
      exact .tup _ _ (by simp [k3]) fun i x v hx hv => k4 i x v hx (by simpa using hv)
  · by_cases h1 : xs.length = 1
    · obtain ⟨x, rfl⟩ := List.length_eq_one_iff.1 h1
      simpa [one] using k5
    · have : one xs = .tup xs := by
        match xs, h1 with
        | [], _ => rfl
        | [x], h => simp at h
        | x :: y :: l, _ => rfl
      rw [this]
      exact .tup _ k5

/-! ### a function without names: data in, data out -/
def PSpec (P : Program) (f : FuncId) (args : List V) (r : V) : Prop :=
  (∀ x ∈ args, x.Below fun _ => False) ∧ (r.Below fun _ => False) ∧
  ∀ (F : Nat → Prop) (ids : Nat → Nat × Nat) (w : World) (vals : Array Value), (∀ b, F b → b < w.heap.size) → vals.size = args.length →
    (∀ (i : Nat) (x : V) (v : Value), args[i]? = some x → vals[i]? = some v → RepV F ids w x v) →
    (callFunc f vals).run P w = .ok (.enter f vals) w ∧ Calls P f vals w fun e w' => ∃ v, e = .returned v ∧ RepV F ids w' r v ∧ Goes (fun _ => False) w w'

theorem PSpec.call {f : FuncId} {args : List V} {r : V} (hs : PSpec P f args r) {h : Hp} {M : Nm} {nm : Nat} {K : V → Hp → Prop} (hk : K r h) : ACall P f args h M nm K := by
  intro F ids w vals hh hsz hv
  obtain ⟨ha, hr, hs⟩ := hs
  obtain ⟨h1, h2⟩ := hs (Avoid F h ids) ids w vals (fun b hb => hb.elim (hh.fsz b) fun hl => hh.liveLt hl) hsz hv
  refine .inl ⟨h1, h2.mono ?_⟩
  rintro e w' ⟨v, rfl, hrv, hg⟩
  have hgl : Goes (Live h ids) w w' := hg.weaken fun _ _ x => x.elim
  have hga : Goes (Avoid F h ids) w w' := hg.weaken fun _ _ x => x.elim
  have hh' : RepH F ids w' h M := ⟨hh.lt, fun n b hb => (hh.blk n b hb).mono hga (fun _ _ x => x) (fun _ _ => rfl) (hh.below n b hb) (fun hr => hg.same _ ((hh.blk n b hb).lt hr) (fun x => x)), hh.below, hh.inj, hh.out, fun b hb => Nat.lt_of_lt_of_le (hh.fsz b hb) hg.size⟩
  refine ⟨v, r, h, ids, rfl, hk, ⟨hh'.nx fun k hk => .inl hk, hgl, fun _ _ x => x, fun _ _ => rfl, fun k hk => .inl hk⟩, hrv, hr.mono fun _ h => h.elim⟩

/-! ### lending: a function that only looks gets what has a name as data without -/
inductive Lend (h : Hp) : V → V → Prop
  | same (x : V) (hb : x.Below fun _ => False) : Lend h x x
  | nil (sz : Nat) : Lend h (.lst sz [] false) (.c (.slice none 0 0))
  | clip (sz : Nat) (rows : List (List D)) (cl : Bool) : Lend h (.lst sz rows false) (.lst sz rows cl)
  | ac (n sz len : Nat) (r : List (List D)) (hn : h n = some (.dat sz r)) (hl : len = r.length) : Lend h (.lst sz r false) (.ac n sz len)
  | sd (n sz off len : Nat) (r rows : List (List D)) (hn : h n = some (.dat sz r)) (hl : off + len ≤ r.length) (hr : rows = (r.drop off).take len) : Lend h (.lst sz rows false) (.sl n sz off len)
  | p (n sz i j : Nat) (r : List (List V)) (row : List D) (hn : h n = some (.rows sz r)) (hr : r[i]? = some (row.map D.toV)) (hl : row.all D.leaf = true) : Lend h (.q row j) (.p n sz i j)
  | pd (n sz i j : Nat) (r : List (List D)) (row : List D) (hn : h n = some (.dat sz r)) (hr : r[i]? = some row) : Lend h (.q row j) (.p n sz i j)
  | fn (f : Fn) (xs xs' ys ys' : List V) (hl : xs.length = xs'.length) (hl' : ys.length = ys'.length) (hx : ∀ (i : Nat) (x y : V), xs[i]? = some x → xs'[i]? = some y → Lend h x y) (hy : ∀ (i : Nat) (x y : V), ys[i]? = some x → ys'[i]? = some y → Lend h x y) : Lend h (.fn f xs ys) (.fn f xs' ys')
  | agg (xs xs' : List V) (hl : xs.length = xs'.length) (hx : ∀ (i : Nat) (x y : V), xs[i]? = some x → xs'[i]? = some y → Lend h x y) : Lend h (.agg xs) (.agg xs')

theorem RepR.q {A A' : Nat → Prop} {ids : Nat → Nat × Nat} {w : World} (hA : ∀ b, A' b → A b) {p : Nat × Nat} {sz i j : Nat} {r : List (List V)} {row : List D} (h : RepR A ids w p sz r) (hr : r[i]? = some (row.map D.toV)) (hl : row.all D.leaf = true) (hp : ¬ A' p.1) :
    RepV A' ids w (.q row j) (.pointer (some ⟨p.1, p.2 + (i * sz + j), none⟩)) := by
  obtain ⟨arr, T, b1, b2, b3, b4⟩ := h
  have key : ∀ (k : Nat) (d : D), row[k]? = some d → ∃ u, arr[p.2 + (i * sz + k)]? = some u ∧ RepD A' w d u := by
    intro k d hk
    obtain ⟨u, hu, hrep⟩ := b4 i (row.map D.toV) k d.toV hr (by simp [hk])
    exact ⟨u, hu, toV_rep hA (List.all_eq_true.1 hl d (List.mem_of_getElem? hk)) hrep⟩
  have e : p.2 + (i * sz + j) = (p.2 + i * sz) + j := by omega
  rw [e]
  refine .q row j p.1 (p.2 + i * sz) (fun k => (arr[p.2 + (i * sz + k)]?).getD default) (Array.getElem?_eq_some_iff.1 b1).1 hp (fun k d hk => ?_) (fun k d hk => ?_)
  · obtain ⟨u, hu, _⟩ := key k d hk
    rw [Nat.add_assoc, cell_of b1, hu]; rfl
  · obtain ⟨u, hu, hrep⟩ := key k d hk
    rw [hu]; exact hrep

theorem Lend.sound {F : Nat → Prop} {ids : Nat → Nat × Nat} {w : World} {h : Hp} {M : Nm} (hh : RepH F ids w h M) {d x : V} (hl : Lend h d x) : ∀ {v : Value}, RepV (Avoid F h ids) ids w x v → RepV F ids w d v := by
  induction hl with
  | same _ hb => exact fun hv => (Frz.same _ hb).sound hh _ hv
  | nil sz => exact fun hv => (Frz.d (.lst sz []) _ (.nil sz)).sound hh _ hv
  | clip sz rows cl => exact fun hv => (Frz.d (.lst sz rows) _ (.lst sz rows cl)).sound hh _ hv
  | ac n sz len r hn hl => exact fun hv => (Frz.d (.lst sz r) _ (.ac n sz len r hn hl)).sound hh _ hv
  | sd n sz off len r rows hn hl hr => exact fun hv => (Frz.d (.lst sz rows) _ (.sd n sz off len r rows hn hl hr)).sound hh _ hv
  | p n sz i j r row hn hr hl => intro v hv; cases hv with | p => exact RepR.q (fun _ x => .inl x) (hh.blk n _ hn) hr hl (hh.out n _ hn rfl)
  | pd n sz i j r row hn hr =>
    intro v hv
    have hne : r ≠ [] := by rintro rfl; simp at hr
    cases hv with | p => exact RepR.q (fun _ x => .inl x) ((hh.blk n _ hn).1 hne) (by rw [toVs_get, hr]; rfl) ((hh.blk n _ hn).2 row (List.mem_of_getElem? hr)) (dat_out hh hn hne)
  | fn f xs xs' ys ys' hl hl' hx hy ih ih' =>
    intro v hv
    cases hv with
    | fn _ _ _ ar br h1 h2 h3 h4 =>
      refine .fn _ _ _ ar br (by rw [h1, hl]) (by rw [h2, hl']) (fun i x v hi hv => ?_) (fun i x v hi hv => ?_)
      · have hlt : i < xs'.length := by rw [← hl]; exact (List.getElem?_eq_some_iff.1 hi).1
        exact ih i x xs'[i] hi (by simp [hlt]) (h3 i _ v (by simp [hlt]) hv)
      · have hlt : i < ys'.length := by rw [← hl']; exact (List.getElem?_eq_some_iff.1 hi).1
        exact ih' i x ys'[i] hi (by simp [hlt]) (h4 i _ v (by simp [hlt]) hv)
  | agg xs xs' hl hx ih =>
    intro v hv
    cases hv with
    | agg _ ar h1 h3 =>
      refine .agg _ ar (by rw [h1, hl]) (fun i x v hi hv => ?_)
      have hlt : i < xs'.length := by rw [← hl]; exact (List.getElem?_eq_some_iff.1 hi).1
      exact ih i x xs'[i] hi (by simp [hlt]) (h3 i _ v (by simp [hlt]) hv)

def isC : V → Bool
  | .c _ => true
  | .un => true
  | _ => false
/-- data that points at nothing -/
def flat : V → Bool
  | .tup xs => xs.all isC
  | .agg xs => xs.all isC
  | x => isC x
theorem isC_rep {A A' : Nat → Prop} {ids ids' : Nat → Nat × Nat} {w w' : World} {x : V} {v : Value} (hx : isC x = true) (h : RepV A ids w x v) : RepV A' ids' w' x v := by
  cases h with
  | c => exact .c _
  | un => exact .un _
  | _ => cases hx
theorem flat_rep {A A' : Nat → Prop} {ids ids' : Nat → Nat × Nat} {w w' : World} {x : V} {v : Value} (hx : flat x = true) (h : RepV A ids w x v) : RepV A' ids' w' x v := by
  cases h with
  | c => exact .c _
  | un => exact .un _
  | tup xs arr hs h => exact .tup _ _ hs fun i x v h1 h2 => isC_rep (List.all_eq_true.1 hx x (List.mem_of_getElem? h1)) (h i x v h1 h2)
  | agg xs arr hs h => exact .agg _ _ hs fun i x v h1 h2 => isC_rep (List.all_eq_true.1 hx x (List.mem_of_getElem? h1)) (h i x v h1 h2)
  | _ => cases hx

def cD : D → Bool
  | .c _ => true
  | _ => false
/-- as PSpec; all that the result points at is new -/
def PSpecN (P : Program) (f : FuncId) (args : List V) (r : V) : Prop :=
  (∀ x ∈ args, x.Below fun _ => False) ∧ (r.Below fun _ => False) ∧
  ∀ (F : Nat → Prop) (ids : Nat → Nat × Nat) (w : World) (vals : Array Value), (∀ b, F b → b < w.heap.size) → vals.size = args.length →
    (∀ (i : Nat) (x : V) (v : Value), args[i]? = some x → vals[i]? = some v → RepV F ids w x v) →
    (callFunc f vals).run P w = .ok (.enter f vals) w ∧ Calls P f vals w fun e w' => ∃ v, e = .returned v ∧ RepV (fun b => b < w.heap.size) ids w' r v ∧ Goes (fun _ => False) w w'
theorem PSpec.new {f : FuncId} {args : List V} {r : V} (hs : PSpec P f args r) (hf : flat r = true) : PSpecN P f args r := by
  obtain ⟨h1, h2, h3⟩ := hs
  refine ⟨h1, h2, fun F ids w vals hF hsz hv => ?_⟩
  obtain ⟨g1, g2⟩ := h3 F ids w vals hF hsz hv
  exact ⟨g1, g2.mono fun e w' ⟨v, he, hrv, hg⟩ => ⟨v, he, flat_rep hf hrv, hg⟩⟩
theorem PSpecN.old {f : FuncId} {args : List V} {r : V} (hs : PSpecN P f args r) : PSpec P f args r := by
  obtain ⟨h1, h2, h3⟩ := hs
  refine ⟨h1, h2, fun F ids w vals hF hsz hv => ?_⟩
  obtain ⟨g1, g2⟩ := h3 F ids w vals hF hsz hv
  refine ⟨g1, g2.mono fun e w' ⟨v, he, hrv, hg⟩ => ⟨v, he, ?_, hg⟩⟩
  exact hrv.mono (Goes.refl _ w') (fun b _ hb => hF b hb) (fun _ _ => rfl) h2

def LendL (h : Hp) : List V → List V → Prop
  | [], [] => True
  | d :: ds, x :: xs => Lend h d x ∧ LendL h ds xs
  | _, _ => False
theorem LendL.length {h : Hp} : ∀ {ds xs : List V}, LendL h ds xs → ds.length = xs.length
  | [], [], _ => rfl
  | _ :: _, _ :: _, hl => by simp [LendL.length hl.2]
  | [], _ :: _, hl => hl.elim
  | _ :: _, [], hl => hl.elim
theorem LendL.at {h : Hp} : ∀ {ds xs : List V}, LendL h ds xs → ∀ (i : Nat) (d x : V), ds[i]? = some d → xs[i]? = some x → Lend h d x
  | [], [], _, i, d, x, h1, _ => by simp at h1
  | _ :: _, _ :: _, hl, 0, d, x, h1, h2 => by simp at h1 h2; rw [← h1, ← h2]; exact hl.1
  | _ :: _, _ :: _, hl, i + 1, d, x, h1, h2 => LendL.at hl.2 i d x (by simpa using h1) (by simpa using h2)
  | [], _ :: _, hl, _, _, _, _, _ => hl.elim
  | _ :: _, [], hl, _, _, _, _, _ => hl.elim

/-- a call that looks and returns r -/
def PCall (P : Program) (f : FuncId) (args : List V) (h : Hp) (r : V) : Prop := PSpec P f args r ∨ ∃ ds, LendL h ds args ∧ PSpecN P f ds r

theorem PCall.below {f : FuncId} {args : List V} {h : Hp} {r : V} (hs : PCall P f args h r) : r.Below fun _ => False := by
  rcases hs with hs | ⟨ds, _, hs⟩ <;> exact hs.2.1

theorem PCall.run {f : FuncId} {args : List V} {r : V} {h : Hp} (hs : PCall P f args h r) {F : Nat → Prop} {ids : Nat → Nat × Nat} {w : World} {M : Nm} {vals : Array Value} (hh : RepH F ids w h M) (hsz : vals.size = args.length)
    (hv : ∀ (i : Nat) (x : V) (v : Value), args[i]? = some x → vals[i]? = some v → RepV (Avoid F h ids) ids w x v) :
    (callFunc f vals).run P w = .ok (.enter f vals) w ∧ Calls P f vals w fun e w' => ∃ v, e = .returned v ∧ RepV (Avoid F h ids) ids w' r v ∧ Goes (fun _ => False) w w' := by
  rcases hs with ⟨ha, hr, hs⟩ | ⟨ds, hl, ⟨ha, hr, hs⟩⟩
  · exact hs (Avoid F h ids) ids w vals (fun b hb => hb.elim (hh.fsz b) fun hl => hh.liveLt hl) hsz hv
  · obtain ⟨h1, h2⟩ := hs F ids w vals hh.fsz (hsz.trans hl.length.symm) fun i d v hd hvi => by
      have hi : i < args.length := by rw [← hl.length]; exact (List.getElem?_eq_some_iff.1 hd).1
      exact (hl.at i d args[i] hd (by simp [hi])).sound hh (hv i args[i] v (by simp [hi]) hvi)
    exact ⟨h1, h2.mono fun e w' ⟨v, he, hrv, hg⟩ => ⟨v, he, hrv.mono (Goes.refl _ w') (fun b _ hb => hb.elim (hh.fsz b) fun hl => hh.liveLt hl) (fun _ _ => rfl) hr, hg⟩⟩

theorem PCall.call {f : FuncId} {args : List V} {r : V} {h : Hp} (hs : PCall P f args h r) {M : Nm} {nm : Nat} {K : V → Hp → Prop} (hk : K r h) : ACall P f args h M nm K := by
  intro F ids w vals hh hsz hv
  obtain ⟨h1, h2⟩ := hs.run hh hsz hv
  refine .inl ⟨h1, h2.mono ?_⟩
  rintro e w' ⟨v, rfl, hrv, hg⟩
  have hgl : Goes (Live h ids) w w' := hg.weaken fun _ _ x => x.elim
  have hga : Goes (Avoid F h ids) w w' := hg.weaken fun _ _ x => x.elim
  have hh' : RepH F ids w' h M := ⟨hh.lt, fun n b hb => (hh.blk n b hb).mono hga (fun _ _ x => x) (fun _ _ => rfl) (hh.below n b hb) (fun hr => hg.same _ ((hh.blk n b hb).lt hr) (fun x => x)), hh.below, hh.inj, hh.out, fun b hb => Nat.lt_of_lt_of_le (hh.fsz b hb) hg.size⟩
  refine ⟨v, r, h, ids, rfl, hk, ⟨hh'.nx fun k hk => .inl hk, hgl, fun _ _ x => x, fun _ _ => rfl, fun k hk => .inl hk⟩, hrv, hs.below.mono fun _ h => h.elim⟩

inductive FrzN (h : Hp) : V → V → Prop
  | flat (x : V) (hx : flat x = true) (hb : x.Below fun _ => False) : FrzN h x x
  | ac (n sz len : Nat) (r : List (List D)) (hn : h n = some (.dat sz r)) (hl : len = r.length) (hc : ∀ row ∈ r, row.all cD = true) : FrzN h (.lst sz r false) (.ac n sz len)
  | sd (n sz off len : Nat) (r rows : List (List D)) (hn : h n = some (.dat sz r)) (hl : off + len ≤ r.length) (hr : rows = (r.drop off).take len) (hc : ∀ row ∈ rows, row.all cD = true) : FrzN h (.lst sz rows false) (.sl n sz off len)
theorem cD_new {A A' : Nat → Prop} {w : World} {d : D} {v : Value} (hc : cD d = true) (h : RepD A w d v) : RepD A' w d v := by
  cases h with
  | c _ h1 => exact .c _ h1
  | _ => cases hc
theorem lst_new {A A' : Nat → Prop} {w : World} {sz : Nat} {rows : List (List D)} {v : Value} (hc : ∀ row ∈ rows, row.all cD = true) (h : RepD A w (.lst sz rows) v) (hA : ∀ b, (∃ o l c, v = .slice (some ⟨b, o, none⟩) l c ∧ l ≠ 0) → ¬ A' b) : RepD A' w (.lst sz rows) v := by
  cases h with
  | emp _ a cap => exact .emp _ _ _
  | lst _ _ b o cap cell hcap hb hn hw hcell hd =>
    by_cases h0 : rows = []
    · subst h0; exact .emp _ _ _
    · refine .lst sz rows b o cap cell hcap hb (hA b ⟨o, _, cap, rfl, fun h => h0 (List.length_eq_zero_iff.1 h)⟩) hw hcell fun i row j d hi hj => cD_new ?_ (hd i row j d hi hj)
      exact List.all_eq_true.1 (hc row (List.mem_of_getElem? hi)) d (List.mem_of_getElem? hj)
theorem FrzN.sound {F : Nat → Prop} {ids ids' : Nat → Nat × Nat} {w : World} {h : Hp} {M : Nm} {k : Nat} (hh : RepH F ids w h M) (hk : ∀ b, b < k → ¬ Live h ids b) {r x : V} (hf : FrzN h r x) {v : Value} (hv : RepV (Avoid F h ids) ids w x v) : RepV (fun b => b < k) ids' w r v := by
  cases hf with
  | flat _ hx hb => exact flat_rep hx hv
  | ac n sz len rs hn hl hc =>
    have h0 := ac_rep hh (A' := F) (fun _ x => .inl x) hn (dat_out hh hn) hl hv
    refine .lst _ _ _ _ (lst_new hc h0 fun b ⟨o, l, c, e, hl0⟩ hb => hk b hb ?_) (by simp)
    subst e
    cases hv with
    | ac0 => exact absurd rfl hl0
    | ac1 _ _ _ _ _ hv =>
      cases hv with
      | sl _ _ _ _ cap ad hcl hcc =>
        obtain ⟨_, _, _, h2, _⟩ := hcc (by omega)
        have h2 := congrArg (fun x : Option Addr => x.map Addr.block) h2
        simp only [Option.map_some, Option.some.injEq] at h2
        exact ⟨n, _, hn, dat_real (by rintro rfl; exact hl0 hl), h2.symm⟩
  | sd n sz off len rs rows hn hl hr hc =>
    subst hr
    have h0 := sd_rep hh (A' := F) (fun _ x => .inl x) hn (dat_out hh hn) hl hv
    refine .lst _ _ _ _ (lst_new hc h0 fun b ⟨o, l, c, e, hl0⟩ hb => hk b hb ?_) (by simp)
    subst e
    cases hv with
    | sl _ _ _ _ cap ad hcl hcc =>
      obtain ⟨_, _, _, h2, _⟩ := hcc (by omega)
      have h2 := congrArg (fun x : Option Addr => x.map Addr.block) h2
      simp only [Option.map_some, Option.some.injEq] at h2
      exact ⟨n, _, hn, dat_real (by rintro rfl; simp at hl; omega), h2.symm⟩

/-- the body of such a function -/
theorem PSpec.of_body (ht : TabOk P tab) {f : FuncId} {fn : Func} {body : Code} (hf : P.funcs[f]? = some fn) (hbody : fn.body = some body) (hname : (fn.name == "runtime.NumGoroutine") = false)
    {args : List V} {r : V} (ha : ∀ x ∈ args, x.Below fun _ => False) (hr : r.Below fun _ => False) (hlen : args.length ≤ fn.ntmps)
    (h : AWP P (fun _ => False) body (fun x s => (match x with | .exit _ => False | _ => True) ∧ resB tab s.t s.h fn.results.toList fun xs => Frz s.h r (one xs)) ⟨fun i => args.getD i .un, fun _ => none, 0, fn.ntmps⟩) : PSpec P f args r := by
  refine ⟨ha, hr, fun F ids w vals hF hsz hv => ⟨?_, ?_⟩⟩
  · simp only [callFunc, Sem.run_bind, run_program, Result.andThen_ok, hf, hname, Bool.false_eq_true, if_false, hbody, Option.isNone_some, Sem.run_pure]
  · refine calls_of_wp hf hbody ?_
    have hh : RepH F ids w (fun _ => none) (Lt 0) := ⟨by simp, by simp, by simp, by simp, by simp, hF⟩
    have hget : ∀ i, args.length ≤ i → args.getD i .un = .un := fun i hi => by simp [List.getD_eq_getElem?_getD, hi]
    have hrep : Rep F ids w ⟨fun i => args.getD i .un, fun _ => none, 0, fn.ntmps⟩ { tmps := vals ++ Array.replicate (fn.ntmps - vals.size) undef, defers := [] } := by
      refine ⟨hh, fun i => ?_, by simp; omega, fun i hi => hget i (Nat.le_trans hlen hi), fun i => ?_, rfl⟩
      · show RepV _ _ _ (args.getD i .un) _
        by_cases hi : i < args.length
        · have hx : args[i]? = some args[i] := by simp [hi]
          have hvi : vals[i]? = some (vals[i]'(by omega)) := by simp [hsz, hi]
          have := hv i args[i] _ hx hvi
          simp only [List.getD_eq_getElem?_getD, hx, Option.getD_some, Array.getD_eq_getD_getElem?, Array.getElem?_append_left (show i < vals.size by omega), hvi]
          refine this.mono (Goes.refl F w) (fun b _ hb => ?_) (fun n hn => hn.elim) (ha _ (List.getElem_mem hi))
          rcases hb with hb | ⟨n, x, hx, _⟩
          · exact hb
          · cases hx
        · rw [hget i (by omega)]; exact .un _
      · show V.Below _ (args.getD i .un)
        by_cases hi : i < args.length
        · have hx : args[i]? = some args[i] := by simp [hi]
          simp only [List.getD_eq_getElem?_getD, hx, Option.getD_some]
          exact (ha _ (List.getElem_mem hi)).mono fun _ h => h.elim
        · rw [hget i (by omega)]; exact .un
    have hw := h F ids w _ hrep
    refine wp_mono hw ?_
    rintro e a' w' ⟨x, s', ids', hx, ⟨hx', hq⟩, hr', hk⟩
    obtain ⟨y, v, k1, k2, k3, k4⟩ := results_sound (P := P) ht hr' fn _ hq
    have hg : Goes (fun _ => False) w w' := hk.goes.weaken fun b _ hb => by obtain ⟨n, z, hz, _⟩ := hb; cases hz
    have hend : ∃ v, (results fn a'.tmps).run P w' = .ok v w' ∧ ∃ v', Ending.returned v = .returned v' ∧ RepV F ids w' r v' ∧ Goes (fun _ => False) w w' :=
      ⟨v, k2, v, rfl, k1.sound hr'.heap v k3, hg⟩
    cases e with
    | normal => exact ⟨hr'.defers, hend⟩
    | ret => exact ⟨hr'.defers, hend⟩
    | exit k =>
      cases x with
      | exit j => exact hx'.elim
      | normal => exact False.elim hx
      | ret => exact False.elim hx
    | _ => cases x <;> cases hx
/-- the same where the result is new -/
theorem PSpecN.of_body (ht : TabOk P tab) {f : FuncId} {fn : Func} {body : Code} (hf : P.funcs[f]? = some fn) (hbody : fn.body = some body) (hname : (fn.name == "runtime.NumGoroutine") = false)
    {args : List V} {r : V} (ha : ∀ x ∈ args, x.Below fun _ => False) (hr : r.Below fun _ => False) (hlen : args.length ≤ fn.ntmps)
    (h : AWP P (fun _ => False) body (fun x s => (match x with | .exit _ => False | _ => True) ∧ resB tab s.t s.h fn.results.toList fun xs => FrzN s.h r (one xs)) ⟨fun i => args.getD i .un, fun _ => none, 0, fn.ntmps⟩) : PSpecN P f args r := by
  refine ⟨ha, hr, fun F ids w vals hF hsz hv => ⟨?_, ?_⟩⟩
  · simp only [callFunc, Sem.run_bind, run_program, Result.andThen_ok, hf, hname, Bool.false_eq_true, if_false, hbody, Option.isNone_some, Sem.run_pure]
  · refine calls_of_wp hf hbody ?_
    have hh : RepH F ids w (fun _ => none) (Lt 0) := ⟨by simp, by simp, by simp, by simp, by simp, hF⟩
    have hget : ∀ i, args.length ≤ i → args.getD i .un = .un := fun i hi => by simp [List.getD_eq_getElem?_getD, hi]
    have hrep : Rep F ids w ⟨fun i => args.getD i .un, fun _ => none, 0, fn.ntmps⟩ { tmps := vals ++ Array.replicate (fn.ntmps - vals.size) undef, defers := [] } := by
      refine ⟨hh, fun i => ?_, by simp; omega, fun i hi => hget i (Nat.le_trans hlen hi), fun i => ?_, rfl⟩
      · show RepV _ _ _ (args.getD i .un) _
        by_cases hi : i < args.length
        · have hx : args[i]? = some args[i] := by simp [hi]
          have hvi : vals[i]? = some (vals[i]'(by omega)) := by simp [hsz, hi]
          have := hv i args[i] _ hx hvi
          simp only [List.getD_eq_getElem?_getD, hx, Option.getD_some, Array.getD_eq_getD_getElem?, Array.getElem?_append_left (show i < vals.size by omega), hvi]
          refine this.mono (Goes.refl F w) (fun b _ hb => ?_) (fun n hn => hn.elim) (ha _ (List.getElem_mem hi))
          rcases hb with hb | ⟨n, x, hx, _⟩
          · exact hb
          · cases hx
        · rw [hget i (by omega)]; exact .un _
      · show V.Below _ (args.getD i .un)
        by_cases hi : i < args.length
        · have hx : args[i]? = some args[i] := by simp [hi]
          simp only [List.getD_eq_getElem?_getD, hx, Option.getD_some]
          exact (ha _ (List.getElem_mem hi)).mono fun _ h => h.elim
        · rw [hget i (by omega)]; exact .un
    have hw := h F ids w _ hrep
    refine wp_mono hw ?_
    rintro e a' w' ⟨x, s', ids', hx, ⟨hx', hq⟩, hr', hk⟩
    obtain ⟨y, v, k1, k2, k3, k4⟩ := results_sound (P := P) ht hr' fn _ hq
    have hg : Goes (fun _ => False) w w' := hk.goes.weaken fun b _ hb => by obtain ⟨n, z, hz, _⟩ := hb; cases hz
    have hend : ∃ v, (results fn a'.tmps).run P w' = .ok v w' ∧ ∃ v', Ending.returned v = .returned v' ∧ RepV (fun b => b < w.heap.size) ids w' r v' ∧ Goes (fun _ => False) w w' :=
      ⟨v, k2, v, rfl, k1.sound hr'.heap (fun b hb hl => by obtain ⟨n, z, hz, _⟩ := hk.live b hb hl; cases hz) k3, hg⟩
    cases e with
    | normal => exact ⟨hr'.defers, hend⟩
    | ret => exact ⟨hr'.defers, hend⟩
    | exit k =>
      cases x with
      | exit j => exact hx'.elim
      | normal => exact False.elim hx
      | ret => exact False.elim hx
    | _ => cases x <;> cases hx
end
end Go.Proofs.Ytmihhkcbbdpnaaa.Abs
