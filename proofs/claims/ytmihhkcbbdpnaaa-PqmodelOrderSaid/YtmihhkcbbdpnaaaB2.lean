/- The abstract machine, part 14: regions in the order of the text, and whole pieces of code. -/
import Derived.Test.YtmihhkcbbdpnaaaB1
namespace Go.Proofs.Ytmihhkcbbdpnaaa.Abs
set_option linter.unusedVariables false
set_option linter.unusedSimpArgs false
section
variable {P : Program} {tab : Tab} {M0 : Nm}

def bindP {α : Type} (o : Option α) (K : α → Prop) : Prop := ∃ x, o = some x ∧ K x

def opB0 (P : Program) (tab : Tab) (b : Nat) (o : Oper) (t : Nat → V) (h : Hp) (K : V → Hp → Prop) : Prop :=
  match o.op with
  | .pick c x y => match evS t c with
    | .c (.bool z) => (z = true → K (evS t x) h) ∧ (z = false → K (evS t y) h)
    | _ => False
  | .call c => match c.callee with
    | .builtin _ => bindP (callV tab b (evS t) h c) fun p => K p.1 p.2
    | .value f => match evS t f with
      | .fn (.func g) first cap => ACall P g (first ++ (c.args.toList.map (evS t) ++ cap)) h (Lt b) b K
      | _ => False
    | _ => False
  | .binOp bo ty x y ty' => match askV ((tab ty).map Ty.kind) bo y (evS t x) with
    | some (neg, p) => ∀ z : Bool, (z = true → p) → K (.c (.bool (z != neg))) h
    | none => bindP (sop tab b (evS t) h (.binOp bo ty x y ty')) fun p => K p.1 p.2
  | op => bindP (sop tab b (evS t) h op) fun p => K p.1 p.2

def opB (P : Program) (tab : Tab) (b : Nat) (o : Oper) (t : Nat → V) (h : Hp) (K : V → Hp → Prop) : Prop := opB0 P tab b o t h K ∨ AOp P o.op (evS t) h (Lt b) b K

def putB (n : Nat) (dst : Option Nat) (v : V) (t : Nat → V) (K : (Nat → V) → Prop) : Prop :=
  match dst with
  | none => K t
  | some d => d < n ∧ K (upd t d v)

/-- what an operation that was passed over leaves -/
abbrev V.no : V := .c (.tuple #[])
def guardB (ops : Array Oper) (o : Oper) (t : Nat → V) (X Y : (Nat → V) → Prop) : Prop :=
  match o.guard with
  | none => X t
  | some (j, want) => match (ops[j]?).bind (·.dst) with
    | some d => match t d with
      | .c (.bool x) => (x = want → X (upd t d (.c (.bool want)))) ∧ (x = (!want) → Y (upd t d (.c (.bool (!want)))))
      | .c (.tuple _) => Y t
      | _ => False
    | none => False

def awpOps (P : Program) (tab : Tab) (ops : Array Oper) (n : Nat) : List Oper → Nat → (Nat → V) → Hp → ((Nat → V) → Hp → Nat → Prop) → Prop
  | [], b, t, h, K => K t h b
  | o :: os, b, t, h, K => guardB ops o t (fun t => opB P tab b o t h fun v h' => putB n o.dst v t fun t' => awpOps P tab ops n os (b + 64) t' h' K)
      (fun t => putB n o.dst .no t fun t' => awpOps P tab ops n os (b + 64) t' h K)

/-! ### soundness -/
theorem Lt_le {a b : Nat} (h : a ≤ b) : Nm.le (Lt a) (Lt b) := fun _ x => Nat.lt_of_lt_of_le x h

theorem RepT.put {F : Nat → Prop} {ids ids' : Nat → Nat × Nat} {w w' : World} {M M' : Nm} {t : Nat → V} {h h' : Hp} {n : Nat} {a : Act} (hr : RepT F ids w M t h n a) (hc : Chg F ids w h M ids' w' h' M') {v : V} {val : Value}
    (hv : RepV (Avoid F h' ids') ids' w' v val) (hb : v.Below M') {d : Nat} (hd : d < n) : RepT F ids' w' M' (upd t d v) h' n (a.put (some d) val) where
  heap := hc.heap
  tmps := fun i => by
    by_cases e : i = d
    · subst e
      rw [upd_same]
      have hs := hr.size
      simp only [Act.put, Array.getD_eq_getD_getElem?, Array.getElem?_setIfInBounds, if_true, hs, hd]
      exact hv
    · rw [upd_ne _ _ _ _ e]
      simp only [Act.put, Array.getD_eq_getD_getElem?, Array.getElem?_setIfInBounds]
      rw [if_neg (Ne.symm e), ← Array.getD_eq_getD_getElem?]
      exact hc.rep (hr.tmps i) (hr.below i)
  size := by simp [Act.put, hr.size]
  out := fun i hi => by rw [upd_ne _ _ _ _ (by omega)]; exact hr.out i hi
  below := fun i => by
    by_cases e : i = d
    · subst e; rw [upd_same]; exact hb
    · rw [upd_ne _ _ _ _ e]; exact (hr.below i).mono hc.nx
  defers := hr.defers

theorem RepT.chg {F : Nat → Prop} {ids ids' : Nat → Nat × Nat} {w w' : World} {M M' : Nm} {t : Nat → V} {h h' : Hp} {n : Nat} {a : Act} (hr : RepT F ids w M t h n a) (hc : Chg F ids w h M ids' w' h' M') : RepT F ids' w' M' t h' n a where
  heap := hc.heap
  tmps := fun i => hc.rep (hr.tmps i) (hr.below i)
  size := hr.size
  out := hr.out
  below := fun i => (hr.below i).mono hc.nx
  defers := hr.defers

theorem RepT.up {F : Nat → Prop} {ids : Nat → Nat × Nat} {w : World} {M M' : Nm} {t : Nat → V} {h : Hp} {n : Nat} {a : Act} (hr : RepT F ids w M t h n a) (hm : M.le M') : RepT F ids w M' t h n a :=
  hr.chg (Chg.skip hr.heap hm)

/-- a slot's own value written again -/
theorem RepT.same {F : Nat → Prop} {ids : Nat → Nat × Nat} {w : World} {M : Nm} {t : Nat → V} {h : Hp} {n : Nat} {a : Act} (hr : RepT F ids w M t h n a) {d : Nat} {v : V} (e : t d = v) : RepT F ids w M (upd t d v) h n a := by
  have : upd t d v = t := by funext i; unfold upd; split <;> simp_all
  rw [this]; exact hr

theorem putB_sound {F : Nat → Prop} {ids ids' : Nat → Nat × Nat} {w w' : World} {M M' : Nm} {t : Nat → V} {h h' : Hp} {n : Nat} {a : Act} (hr : RepT F ids w M t h n a) (hc : Chg F ids w h M ids' w' h' M') {v : V} {val : Value}
    (hv : RepV (Avoid F h' ids') ids' w' v val) (hb : v.Below M') {dst : Option Nat} {K : (Nat → V) → Prop} (hk : putB n dst v t K) : ∃ t', K t' ∧ RepT F ids' w' M' t' h' n (a.put dst val) := by
  cases dst with
  | none => exact ⟨t, hk, hr.chg hc⟩
  | some d => exact ⟨_, hk.2, hr.put hc hv hb hk.1⟩

theorem opB_sound (ht : TabOk P tab) {F : Nat → Prop} {ids : Nat → Nat × Nat} {w : World} {t : Nat → V} {h : Hp} {n b : Nat} {a : Act} (hr : RepT F ids w (Lt b) t h n a) (o : Oper) {K : V → Hp → Prop} (hk : opB P tab b o t h K)
    (next : Act → World → Prop) (Q : Exit → Act → World → Prop)
    (hnext : ∀ v h' ids' w' val, K v h' → Chg F ids w h (Lt b) ids' w' h' (Lt (b + 64)) → RepV (Avoid F h' ids') ids' w' v val → v.Below (Lt (b + 64)) → next (a.put o.dst val) w') : o.wp P a w next Q := by
  have hfresh : ¬ Lt b b := Nat.lt_irrefl b
  have hup : Nm.le ((Lt b).add b) (Lt (b + 64)) := by rintro k (hk | rfl); exact Nat.lt_of_lt_of_le hk (by omega); exact Nat.lt_add_of_pos_right (by omega)
  have hsop : ∀ v h', sop tab b (evS t) h o.op = some (v, h') → K v h' → o.wp P a w next Q := by
    intro v h' hs hK
    obtain ⟨val, w', ids', hrun, hc, hv, hbv⟩ := sop_sound ht hr.heap hfresh (evS t) a.eval (evS_rep hr) (evS_below hr.below) (fun _ => rfl) o hs
    have hc' : Chg F ids w h (Lt b) ids' w' h' (Lt (b + 64)) := hc.trans (Chg.skip hc.heap hup)
    have := hnext v h' ids' w' val hK hc' hv (hbv.mono hup)
    unfold Oper.wp
    rcases hrun with hrun | ⟨hrun, rfl⟩
    · rw [hrun]; exact this
    · rw [hrun]; exact this
  rcases hk with hk | hk
  case inr =>
    have hup' : Nm.le ((Lt b).call b) (Lt (b + 64)) := by
      rintro k (hk | hk)
      · exact Nat.lt_of_lt_of_le hk (by omega)
      · exact hk.2
    exact hk F ids w a o rfl hr.heap (fun x _ => evS_rep hr x) (fun x _ => evS_below hr.below x) next Q fun v h' ids' w' val hK hc hv hb => hnext v h' ids' w' val hK (hc.trans (Chg.skip hc.heap hup')) hv (hb.mono hup')
  unfold opB0 at hk
  split at hk
  · next c x y ho =>
    split at hk
    · next z hz =>
      have hc := evS_rep hr c
      rw [hz] at hc
      have hv : a.eval c = .bool z := by cases hq : a.eval c <;> rw [hq] at hc <;> cases hc <;> rfl
      have hskip : Chg F ids w h (Lt b) ids w h (Lt (b + 64)) := Chg.skip hr.heap (Lt_le (by omega))
      unfold Oper.wp
      have hex : (execOp a.eval o).run P w = .ok (.value (if z = true then a.eval x else a.eval y)) w := by
        simp only [execOp, ho, hv, asBool, Sem.run_bind, Sem.run_pure, Result.andThen_ok]
      rw [hex]
      cases z with
      | true => exact hnext _ h ids w _ (hk.1 rfl) hskip (evS_rep hr x) ((evS_below hr.below x).mono (Lt_le (by omega)))
      | false => exact hnext _ h ids w _ (hk.2 rfl) hskip (evS_rep hr y) ((evS_below hr.below y).mono (Lt_le (by omega)))
    · exact hk.elim
  · next c ho =>
    split at hk
    · obtain ⟨⟨v, h'⟩, hs, hK⟩ := hk
      exact hsop v h' (by rw [ho]; exact hs) hK
    · next f hcal =>
      split at hk
      · next g first cap hf =>
        have hfr := evS_rep hr f
        rw [hf] at hfr
        obtain ⟨fa, ca, hfv, s1, s2, r1, r2⟩ : ∃ fa ca, a.eval f = .func (.func g) fa ca ∧ fa.size = first.length ∧ ca.size = cap.length ∧
            (∀ (i : Nat) (x : V) (v : Value), first[i]? = some x → fa[i]? = some v → RepV (Avoid F h ids) ids w x v) ∧ (∀ (i : Nat) (x : V) (v : Value), cap[i]? = some x → ca[i]? = some v → RepV (Avoid F h ids) ids w x v) := by
          generalize a.eval f = u at hfr
          cases hfr with
          | fn _ _ _ ar br h1 h2 h3 h4 => exact ⟨ar, br, rfl, h1, h2, h3, h4⟩
        have hvals : ∀ (i : Nat) (x : V) (v : Value), (first ++ (c.args.toList.map (evS t) ++ cap))[i]? = some x → (fa ++ c.args.map a.eval ++ ca)[i]? = some v → RepV (Avoid F h ids) ids w x v := by
          intro i x v hx hv
          by_cases h1 : i < first.length
          · rw [List.getElem?_append_left h1] at hx
            rw [Array.getElem?_append_left (by simp; omega), Array.getElem?_append_left (by omega)] at hv
            exact r1 i x v hx hv
          · rw [List.getElem?_append_right (by omega)] at hx
            by_cases h2 : i - first.length < c.args.toList.length
            · rw [List.getElem?_append_left (by simpa using h2), List.getElem?_map, Option.map_eq_some_iff] at hx
              obtain ⟨y, hy, rfl⟩ := hx
              rw [Array.getElem?_append_left (by simp at h2 ⊢; omega), Array.getElem?_append_right (by omega), Array.getElem?_map, s1] at hv
              rw [Array.getElem?_toList] at hy
              rw [hy] at hv
              cases hv
              exact evS_rep hr y
            · rw [List.getElem?_append_right (by simpa using Nat.le_of_not_lt h2)] at hx
              rw [Array.getElem?_append_right (by simp at h2 ⊢; omega)] at hv
              refine r2 _ x v hx ?_
              rw [← hv]; congr 1; simp; omega
        have hup' : Nm.le (fun k => Lt b k ∨ (b ≤ k ∧ k < b + 64)) (Lt (b + 64)) := by
          rintro k (hk | hk)
          · exact Nat.lt_of_lt_of_le hk (by omega)
          · exact hk.2
        unfold Oper.wp
        rcases hk F ids w (fa ++ c.args.map a.eval ++ ca) hr.heap (by simp; omega) hvals with ⟨c1, c2⟩ | ⟨v, r, h', ids', w', c1, hK, hc, hv, hbv⟩
        case inr =>
          have hex : (execOp a.eval o).run P w = .ok (.value v) w' := by
            simp only [execOp, ho, resolve, hcal, hfv, Deferred.ofValue, Sem.run_bind, Sem.run_pure, Result.andThen_ok, invoke]
            exact c1
          rw [hex]
          exact hnext r h' ids' w' v hK (hc.trans (Chg.skip hc.heap hup')) hv (hbv.mono hup')
        have hex : (execOp a.eval o).run P w = .ok (.enter g (fa ++ c.args.map a.eval ++ ca)) w := by
          simp only [execOp, ho, resolve, hcal, hfv, Deferred.ofValue, Sem.run_bind, Sem.run_pure, Result.andThen_ok, invoke]
          exact c1
        rw [hex, Oper.upon_enter]
        refine c2.mono ?_
        rintro e w' ⟨v, r, h', ids', rfl, hK, hc, hv, hbv⟩
        exact hnext r h' ids' w' v hK (hc.trans (Chg.skip hc.heap hup')) hv (hbv.mono hup')
      · exact hk.elim
    · exact hk.elim
  · next bo ty x y ty' ho =>
    split at hk
    · next neg p hask =>
      cases y with
      | const c =>
        obtain ⟨z, hz, hrun⟩ := ask_sound (P := P) (w := w) ht (evS_rep hr x) hask x
        have hskip : Chg F ids w h (Lt b) ids w h (Lt (b + 64)) := Chg.skip hr.heap (Lt_le (by omega))
        unfold Oper.wp
        have hex : (execOp a.eval o).run P w = .ok (.value (.bool (z != neg))) w := by
          simp only [execOp, ho, Sem.run_bind, Act.eval] at hrun ⊢
          rw [hrun]; rfl
        rw [hex]
        exact hnext _ h ids w _ (hk z hz) hskip (.c _) (.c _)
      | _ => simp [askV, nilOp] at hask
    · obtain ⟨⟨v, h'⟩, hs, hK⟩ := hk
      exact hsop v h' (by rw [ho]; exact hs) hK
  · obtain ⟨⟨v, h'⟩, hs, hK⟩ := hk
    exact hsop v h' hs hK

theorem awpOps_sound (ht : TabOk P tab) (ops : Array Oper) {n : Nat} {Q : Exit → Act → World → Prop} {F : Nat → Prop} (b0 : Nat) (hb0 : M0.le (Lt b0)) {ids0 : Nat → Nat × Nat} {w0 : World} {h0 : Hp} {K : (Nat → V) → Hp → Nat → Prop}
    (hQ : ∀ t' h' b' ids' w' a', K t' h' b' → RepT F ids' w' (Lt b') t' h' n a' → Keep M0 ids0 w0 h0 ids' w' h' → Q .normal a' w') :
    ∀ (os : List Oper) (i b : Nat) (t : Nat → V) (h : Hp) (ids : Nat → Nat × Nat) (w : World) (a : Act), b0 ≤ b → (∀ k, (os[k]?) = ops[i + k]?) → awpOps P tab ops n os b t h K → RepT F ids w (Lt b) t h n a → Keep M0 ids0 w0 h0 ids w h →
      wpOps P ops Q (List.range' i os.length) a w := by
  intro os
  induction os with
  | nil => intro i b t h ids w a hb hos hk hr hkeep; exact hQ t h b ids w a hk hr hkeep
  | cons o os ih =>
    intro i b t h ids w a hb hos hk hr hkeep
    have ho : ops[i]? = some o := by have := hos 0; simpa using this.symm
    have hos' : ∀ k, (os[k]?) = ops[i + 1 + k]? := by
      intro k
      have := hos (k + 1)
      rw [List.getElem?_cons_succ] at this
      rw [this]; congr 1; omega
    simp only [List.length_cons, List.range'_succ, wpOps, ho]
    have hrun : ∀ t1, RepT F ids w (Lt b) t1 h n a → (opB P tab b o t1 h fun v h' => putB n o.dst v t1 fun t' => awpOps P tab ops n os (b + 64) t' h' K) → o.wp P a w (wpOps P ops Q (List.range' (i + 1) os.length)) Q := by
      intro t1 hr1 hk1
      refine opB_sound ht hr1 o hk1 _ _ ?_
      intro v h' ids' w' val hK hc hv hbv
      obtain ⟨t', ht', hr'⟩ := putB_sound hr1 hc hv hbv hK
      exact ih (i + 1) (b + 64) t' h' ids' w' _ (by omega) hos' ht' hr' (hkeep.trans (hc.keep (fun k hk => Nat.lt_of_lt_of_le (hb0 k hk) hb)))
    have hskip : ∀ t1, RepT F ids w (Lt b) t1 h n a → (putB n o.dst .no t1 fun t' => awpOps P tab ops n os (b + 64) t' h K) → wpOps P ops Q (List.range' (i + 1) os.length) (a.put o.dst undef) w := by
      intro t1 hr1 hk1
      have hc : Chg F ids w h (Lt b) ids w h (Lt (b + 64)) := Chg.skip hr1.heap (Lt_le (by omega))
      obtain ⟨t', ht', hr'⟩ := putB_sound hr1 hc (.c undef) (.c _) hk1
      exact ih (i + 1) (b + 64) t' h ids w _ (by omega) hos' ht' hr' hkeep
    unfold awpOps guardB at hk
    split at hk
    · next hg =>
      rw [if_pos (by simp [Region.wanted, hg])]
      exact .inl (hrun t hr hk)
    · next j want hg =>
      split at hk
      · next d hd =>
        split at hk
        · next x hx =>
          have hv := hr.tmps d
          rw [hx] at hv
          have hval : a.tmps[d]? = some (.bool x) := by
            rw [Array.getD_eq_getD_getElem?] at hv
            cases hq : a.tmps[d]? with
            | none => rw [hq] at hv; simp only [Option.getD_none] at hv; cases hv
            | some u => rw [hq] at hv; simp only [Option.getD_some] at hv; cases hv; rfl
          have hy : yielded ops a.tmps j = some x := by unfold yielded; rw [hd]; simp [hval]
          by_cases e : x = want
          · rw [if_pos (by simp [Region.wanted, hg, hy, e])]
            exact .inl (hrun _ (hr.same (by rw [hx, e])) (hk.1 e))
          · have e' : x = !want := by cases x <;> cases want <;> simp_all
            rw [if_neg (by simp [Region.wanted, hg, hy, e])]
            exact hskip _ (hr.same (by rw [hx, e'])) (hk.2 e')
        · next q hx =>
          have hv := hr.tmps d
          rw [hx] at hv
          have hval : a.tmps.getD d undef = .tuple q := by
            generalize a.tmps.getD d undef = u at hv
            cases hv; rfl
          have hy : yielded ops a.tmps j = none := by
            unfold yielded
            rw [hd]
            rw [Array.getD_eq_getD_getElem?] at hval
            cases hq : a.tmps[d]? with
            | none => simp [hq]
            | some u => rw [hq] at hval; simp only [Option.getD_some] at hval; subst hval; simp [hq]
          rw [if_neg (by simp [Region.wanted, hg, hy])]
          exact hskip _ hr hk
        · exact hk.elim
      · exact hk.elim

theorem awp_region (ht : TabOk P tab) {id : Nat} {ops : Array Oper} {Q : Ex → St → Prop} {s : St} (hm : M0.le (Lt s.b)) (h : awpOps P tab ops s.n ops.toList s.b s.t s.h fun t h b => Q .normal ⟨t, h, b, s.n⟩) : AWP P M0 (.region id ops false) Q s := by
  intro F ids w a hr
  refine wp_region ?_
  have := awpOps_sound (M0 := M0) ht ops (n := s.n) (Q := fun e a' w' => ∃ x s' ids', x.is e ∧ Q x s' ∧ Rep F ids' w' s' a' ∧ Keep M0 ids w s.h ids' w' s'.h) (F := F) s.b hm (ids0 := ids) (w0 := w) (h0 := s.h)
    (K := fun t h b => Q .normal ⟨t, h, b, s.n⟩) (fun t' h' b' ids' w' a' hK hr' hk => ⟨.normal, ⟨t', h', b', s.n⟩, ids', trivial, hK, hr', hk⟩) ops.toList 0 s.b s.t s.h ids w a (Nat.le_refl _) (fun k => by simp) h hr Keep.refl
  simpa [List.range_eq_range'] using this
end
end Go.Proofs.Ytmihhkcbbdpnaaa.Abs
