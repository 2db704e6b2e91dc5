/- The abstract machine, part 20: regions whose order is open, reckoned in the order of the text. -/
import Derived.Test.YtmihhkcbbdpnaaaB7
namespace Go.Proofs.Ytmihhkcbbdpnaaa.Abs
set_option linter.unusedVariables false
set_option linter.unusedSimpArgs false
section
variable {P : Program} {tab : Tab} {M0 : Nm}

theorem guardV_wanted {F : Nat → Prop} {ids : Nat → Nat × Nat} {w : World} {M : Nm} {t : Nat → V} {h : Hp} {n : Nat} {a : Act} (hr : RepT F ids w M t h n a) (ops : Array Oper) (o : Oper) {x : Bool} (hg : guardV ops o t = some x) :
    Region.wanted o (yielded ops a.tmps) = x := by
  unfold guardV at hg
  unfold Region.wanted
  split at hg
  · next hgd => rw [hgd]; simpa using hg
  · next j want hgd =>
    rw [hgd]
    rw [Option.bind_eq_some_iff] at hg
    obtain ⟨d, hd, hg⟩ := hg
    rw [Option.map_eq_some_iff] at hg
    obtain ⟨y, hy, rfl⟩ := hg
    unfold boolOf at hy
    split at hy
    · next y' hx =>
      cases hy
      have hv := hr.tmps d
      rw [hx] at hv
      have hval : a.tmps[d]? = some (.bool y') := by
        rw [Array.getD_eq_getD_getElem?] at hv
        cases hq : a.tmps[d]? with
        | none => rw [hq] at hv; simp only [Option.getD_none] at hv; cases hv
        | some u => rw [hq] at hv; simp only [Option.getD_some] at hv; cases hv; rfl
      have hyl : yielded ops a.tmps j = some y' := by unfold yielded; rw [hd]; simp [hval]
      simp [hyl]
    · next q hx =>
      cases hy
      have hv := hr.tmps d
      rw [hx] at hv
      have hval : a.tmps.getD d undef = .tuple q := by
        generalize a.tmps.getD d undef = u at hv
        cases hv; rfl
      have hyl : yielded ops a.tmps j = none := by
        unfold yielded
        rw [hd]
        rw [Array.getD_eq_getD_getElem?] at hval
        cases hq : a.tmps[d]? with
        | none => simp [hq]
        | some u => rw [hq] at hval; simp only [Option.getD_some] at hval; subst hval; simp [hq]
      simp [hyl]
    · cases hy

theorem RepT.putT {F : Nat → Prop} {ids ids' : Nat → Nat × Nat} {w w' : World} {M M' : Nm} {t : Nat → V} {h h' : Hp} {n : Nat} {a : Act} (hr : RepT F ids w M t h n a) (hc : Chg F ids w h M ids' w' h' M') {v : V} {val : Value}
    (hv : RepV (Avoid F h' ids') ids' w' v val) (hb : v.Below M') {dst : Option Nat} (hd : ∀ d, dst = some d → d < n) : RepT F ids' w' M' (Abs.putT dst v t) h' n (a.put dst val) := by
  cases dst with
  | none => exact hr.chg hc
  | some d => exact hr.put hc hv hb (hd d rfl)

theorem DOp_sound (ht : TabOk P tab) {F : Nat → Prop} {ids : Nat → Nat × Nat} {w : World} {M : Nm} {t : Nat → V} {h : Hp} {n nm : Nat} {a : Act} (hr : RepT F ids w M t h n a) (hfresh : ∀ k, nm ≤ k → k < nm + 64 → ¬ M k) (o : Oper) {d : Dyn} {v : V} {u : List (Nat × Option B)} (hd : DOp P tab nm o.op (evS t) d h v u)
    (next : Act → World → Prop) (Q : Exit → Act → World → Prop) (hnext : ∀ ids' w' val, Chg F ids w h M ids' w' (appU h u) (M.call nm) → RepV (Avoid F (appU h u) ids') ids' w' v val → v.Below (M.call nm) → next (a.put o.dst val) w') : o.wp P a w next Q := by
  have hup : M.le (M.call nm) := fun _ x => .inl x
  rcases hd with hd | ⟨_, hl⟩
  case inr =>
    refine hl.run h (fun _ _ => rfl) M hfresh (fun x _ => evS_below hr.below x) F ids w a o rfl hr.heap (fun x _ => evS_rep hr x) (fun x _ => evS_below hr.below x) next Q ?_
    rintro v' h' ids' w' val ⟨rfl, rfl⟩ hc hv hb
    exact hnext ids' w' val hc hv hb
  unfold DOp0 at hd
  unfold Oper.wp
  split at hd
  · next c x y ho =>
    obtain ⟨⟨z, hz, rfl⟩, rfl, rfl⟩ := hd
    have hc := evS_rep hr c
    rw [hz] at hc
    have hv : a.eval c = .bool z := by cases hq : a.eval c <;> rw [hq] at hc <;> cases hc <;> rfl
    have hex : (execOp a.eval o).run P w = .ok (.value (if z = true then a.eval x else a.eval y)) w := by
      simp only [execOp, ho, hv, asBool, Sem.run_bind, Sem.run_pure, Result.andThen_ok]
    rw [hex]
    refine hnext ids w _ (Chg.skip hr.heap hup) ?_ ?_
    · split
      · exact evS_rep hr x
      · exact evS_rep hr y
    · split
      · exact (evS_below hr.below x).mono hup
      · exact (evS_below hr.below y).mono hup
  · next f args tys ho =>
    obtain ⟨g, first, cap, hf, _, hl⟩ := hd
    have hfr := evS_rep hr f
    have hfb := evS_below hr.below f
    rw [hf] at hfr hfb
    obtain ⟨ar, br, hfv, s1, s2, h3, h4⟩ : ∃ ar br, a.eval f = .func (.func g) ar br ∧ ar.size = first.length ∧ br.size = cap.length ∧ (∀ (i : Nat) (x : V) (v : Value), first[i]? = some x → ar[i]? = some v → RepV (Avoid F h ids) ids w x v) ∧ (∀ (i : Nat) (x : V) (v : Value), cap[i]? = some x → br[i]? = some v → RepV (Avoid F h ids) ids w x v) := by
      generalize a.eval f = q at hfr
      cases hfr with | fn _ _ _ ar br h1 h2 h3 h4 => exact ⟨ar, br, rfl, h1, h2, h3, h4⟩
    obtain ⟨b1, b2⟩ : (∀ x ∈ first, x.Below M) ∧ ∀ x ∈ cap, x.Below M := by cases hfb with | fn _ _ _ b1 b2 => exact ⟨b1, b2⟩
    have hbel : ∀ x ∈ first ++ (args.toList.map (evS t) ++ cap), x.Below M := by
      intro x hx
      simp only [List.mem_append, List.mem_map] at hx
      rcases hx with hx | ⟨y, _, rfl⟩ | hx
      · exact b1 x hx
      · exact evS_below hr.below y
      · exact b2 x hx
    have hac := hl.run h (fun _ _ => rfl) M hfresh hbel
    have hvals : ∀ (i : Nat) (x : V) (v : Value), (first ++ (args.toList.map (evS t) ++ cap))[i]? = some x → (ar ++ args.map a.eval ++ br)[i]? = some v → RepV (Avoid F h ids) ids w x v := by
      intro i x v hx hv
      rw [Array.append_assoc] at hv
      by_cases h1 : i < first.length
      · rw [List.getElem?_append_left h1] at hx
        rw [Array.getElem?_append_left (by omega)] at hv
        exact h3 i x v hx hv
      · rw [List.getElem?_append_right (by omega)] at hx
        rw [Array.getElem?_append_right (by omega), s1] at hv
        by_cases h2 : i - first.length < args.size
        · rw [List.getElem?_append_left (by simpa using h2)] at hx
          rw [Array.getElem?_append_left (by simpa using h2)] at hv
          rw [List.getElem?_map, Option.map_eq_some_iff] at hx
          obtain ⟨y, hy, rfl⟩ := hx
          rw [Array.getElem?_toList] at hy
          rw [Array.getElem?_map, hy] at hv
          cases hv
          exact evS_rep hr y
        · rw [List.getElem?_append_right (by simpa using h2)] at hx
          rw [Array.getElem?_append_right (by simpa using h2)] at hv
          simp only [List.length_map, Array.length_toList, Array.size_map] at hx hv
          exact h4 _ x v hx hv
    rcases hac F ids w (ar ++ args.map a.eval ++ br) hr.heap (by simp [s1, s2, Nat.add_assoc]) hvals with ⟨c1, c2⟩ | ⟨val, r, h', ids', w', c1, ⟨rfl, rfl⟩, hc, hrv, hrb⟩
    case inr =>
      have hex : (execOp a.eval o).run P w = .ok (.value val) w' := by
        simp only [execOp, ho, resolve, hfv, Deferred.ofValue, Sem.run_bind, Sem.run_pure, Result.andThen_ok, invoke]
        simpa [Array.append_assoc] using c1
      rw [hex]
      exact hnext ids' w' val hc hrv hrb
    have hex : (execOp a.eval o).run P w = .ok (.enter g (ar ++ args.map a.eval ++ br)) w := by
      simp only [execOp, ho, resolve, hfv, Deferred.ofValue, Sem.run_bind, Sem.run_pure, Result.andThen_ok, invoke]
      simpa [Array.append_assoc] using c1
    rw [hex, Oper.upon_enter]
    refine c2.mono ?_
    rintro e w' ⟨val, r, h', ids', rfl, ⟨rfl, rfl⟩, hc, hrv, hrb⟩
    exact hnext ids' w' val hc hrv hrb
  · obtain ⟨_, _, _, h4⟩ := hd
    have hnm : ¬ M nm := hfresh nm (Nat.le_refl _) (by omega)
    obtain ⟨val, w', ids', hrun, hc, hv, hbv⟩ := sop_sound ht hr.heap hnm (evS t) a.eval (evS_rep hr) (evS_below hr.below) (fun _ => rfl) o (h4 h fun _ _ => rfl)
    have hadd : (M.add nm).le (M.call nm) := by rintro k (hk | rfl); exact .inl hk; exact .inr ⟨Nat.le_refl _, by omega⟩
    have := hnext ids' w' val (hc.trans (Chg.skip hc.heap hadd)) hv (hbv.mono hadd)
    rcases hrun with hrun | ⟨hrun, rfl⟩
    · rw [hrun]; exact this
    · rw [hrun]; exact this

/-- names while the operations of the list D have been done -/
def MD (b : Nat) (D : List Nat) : Nm := fun k => k < b ∨ ∃ i ∈ D, b + 64 * i ≤ k ∧ k < b + 64 * i + 64

theorem exec_sound (ht : TabOk P tab) (ops : Array Oper) {n b : Nat} {ds : Nat → Dyn} {Q : Exit → Act → World → Prop} {F : Nat → Prop} (hb0 : M0.le (Lt b)) {ids0 : Nat → Nat × Nat} {w0 : World} {h0 : Hp} :
    ∀ (l D : List Nat) (s s' : (Nat → V) × Hp) (ids : Nat → Nat × Nat) (w : World) (a : Act), Chain (fun i s s1 => DStep P tab ops n b i (ds i) s.1 s.2 s1.1 s1.2) l s s' → l.Nodup → (∀ i ∈ l, i ∉ D) →
      RepT F ids w (MD b D) s.1 s.2 n a → Keep M0 ids0 w0 h0 ids w s.2 →
      (∀ ids' w' a' D', (∀ i ∈ D', i ∈ D ∨ i ∈ l) → RepT F ids' w' (MD b D') s'.1 s'.2 n a' → Keep M0 ids0 w0 h0 ids' w' s'.2 → Q .normal a' w') → wpOps P ops Q l a w := by
  intro l
  induction l with
  | nil =>
    intro D s s' ids w a hc _ _ hr hk hQ
    cases hc
    exact hQ ids w a D (fun i hi => .inl hi) hr hk
  | cons i l ih =>
    intro D s s' ids w a hc hnd hdis hr hk hQ
    cases hc with
    | @cons _ _ _ s1 _ h1 h2 =>
      obtain ⟨o, ho, hdst, hstep⟩ := h1
      have hiD := hdis i (by simp)
      have hM0 : M0.le (MD b D) := fun k hk => .inl (hb0 k hk)
      have hadd : ((MD b D).call (b + 64 * i)).le (MD b (i :: D)) := by
        rintro k ((hk | ⟨j, hj, hk⟩) | hk)
        · exact .inl hk
        · exact .inr ⟨j, by simp [hj], hk⟩
        · exact .inr ⟨i, by simp, hk⟩
      have hrec : ∀ ids' w' a', RepT F ids' w' (MD b (i :: D)) s1.1 s1.2 n a' → Keep M0 ids0 w0 h0 ids' w' s1.2 → wpOps P ops Q l a' w' := by
        intro ids' w' a' hr' hk'
        refine ih (i :: D) s1 s' ids' w' a' h2 (List.nodup_cons.1 hnd).2 (fun j hj hx => ?_) hr' hk' (fun ids2 w2 a2 D2 hD2 => hQ ids2 w2 a2 D2 fun j hj => ?_)
        · rcases List.mem_cons.1 hx with rfl | hx
          · exact (List.nodup_cons.1 hnd).1 hj
          · exact hdis j (by simp [hj]) hx
        · rcases hD2 j hj with hj | hj
          · rcases List.mem_cons.1 hj with rfl | hj
            · exact .inr (by simp)
            · exact .inl hj
          · exact .inr (by simp [hj])
      simp only [wpOps, ho]
      rcases hstep with ⟨hg, v, u, hd, e2, e1⟩ | ⟨hg, e2, e1⟩
      · rw [if_pos (guardV_wanted hr ops o hg)]
        left
        have hfresh : ∀ k, b + 64 * i ≤ k → k < b + 64 * i + 64 → ¬ MD b D k := by
          rintro k k1 k2 (hk | ⟨j, hj, hk⟩)
          · omega
          · have : i = j := by omega
            subst this; exact hiD hj
        refine DOp_sound ht hr hfresh o hd _ _ ?_
        intro ids' w' val hc hv hbv
        rw [← e2] at hc hv
        have hr' := hr.putT hc hv hbv hdst
        rw [← e1] at hr'
        exact hrec ids' w' _ (hr'.up hadd) (hk.trans (hc.keep hM0))
      · rw [if_neg (by rw [guardV_wanted hr ops o hg]; simp)]
        have hr' := hr.putT (Chg.refl hr.heap) (v := V.no) (.c undef) (.c _) hdst
        rw [← e1, ← e2] at hr'
        refine hrec ids w _ (hr'.up ?_) (by rw [e2]; exact hk)
        rintro k (hk | ⟨j, hj, hk⟩)
        · exact .inl hk
        · exact .inr ⟨j, by simp [hj], hk⟩

abbrev dyn0 : Dyn := ⟨[], [], [], true⟩
theorem draw_sound (ht : TabOk P tab) (hmix : P.follows .mixedOrders = true) {id : Nat} {ops : Array Oper} {Q : Ex → St → Prop} {s : St} (hm : M0.le (Lt s.b)) {ds : List Dyn} (hok : okD ops ds = true) {t' : Nat → V} {h' : Hp}
    (hc : Chain (fun i s1 s2 => DStep P tab ops s.n s.b i (ds.getD i dyn0) s1.1 s1.2 s2.1 s2.2) (List.range ops.size) (s.t, s.h) (t', h')) (hq : Q .normal ⟨t', h', s.b + 64 * ops.size, s.n⟩) : AWP P M0 (.region id ops true) Q s := by
  intro F ids w a hr
  refine wp_region_draw fun tp => ?_
  rw [hmix]
  simp only [okD, Bool.and_eq_true] at hok
  obtain ⟨k1, k3⟩ := hok
  obtain ⟨ht1, ht2⟩ := linearise_topo k1 tp
  have hsch : Region.schedule true ops tp = Region.linearise .any ops tp := rfl
  rw [hsch]
  generalize Region.linearise .any ops tp = l at ht1 ht2
  have hchain := Chain.perm l (List.range ops.size) _ _ (ht1.perm ht2) List.nodup_range (fun i j h1 h2 => by
    have hij : i < j := by
      have := (List.pairwise_lt_range (n := ops.size)).sublist h1
      simpa using this
    have hj : j < ops.size := List.mem_range.1 (h1.subset (by simp))
    have := List.all_eq_true.1 (List.all_eq_true.1 k3 j (List.mem_range.2 hj)) i (List.mem_range.2 hij)
    rw [Bool.or_eq_true] at this
    rcases this with hb | hin
    · exact (ht1.notBefore (masks_sound ops hb) h2).elim
    · intro s0 s1 s2 g1 g2
      obtain ⟨t1, h1', q1, q2⟩ := DStep.swap hin g1 g2
      exact ⟨(t1, h1'), q1, q2⟩) hc
  have hdr := Chg.drew hr.heap
  show wpOps P ops _ l a w.drew
  refine exec_sound (F := F) (M0 := M0) ht ops hm (ids0 := ids) (w0 := w) (h0 := s.h) l [] (s.t, s.h) (t', h') ids w.drew a hchain ht1.nodup (by simp) ?_ ?_ ?_
  · exact (hr.chg hdr).up fun k hk => .inl hk
  · exact hdr.keep hm
  · intro ids' w' a' D' hD hr' hk
    refine ⟨.normal, ⟨t', h', s.b + 64 * ops.size, s.n⟩, ids', trivial, hq, hr'.up ?_, hk⟩
    rintro k (hk | ⟨i, hi, k1, k2⟩)
    · exact Nat.lt_of_lt_of_le hk (Nat.le_add_right _ _)
    · have : i < ops.size := by
        rcases hD i hi with h | h
        · cases h
        · exact ht1.lt i h
      show k < s.b + 64 * ops.size
      omega

def drawB (P : Program) (tab : Tab) (ops : Array Oper) (n b : Nat) : Nat → List Oper → (Nat → V) → Hp → List Dyn → (List Dyn → (Nat → V) → Hp → Prop) → Prop
  | _, [], t, h, acc, K => K acc t h
  | i, o :: os, t, h, acc, K => ∃ x, guardV ops o t = some x ∧ (∀ d, o.dst = some d → d < n) ∧
      (x = true → ∃ d v u, DOp P tab (b + 64 * i) o.op (evS t) d h v u ∧ drawB P tab ops n b (i + 1) os (putT o.dst v t) (appU h u) (acc ++ [d]) K) ∧
      (x = false → drawB P tab ops n b (i + 1) os (putT o.dst V.no t) h (acc ++ [⟨[], [], [], false⟩]) K)

theorem drawB_chain (ops : Array Oper) {n b : Nat} {K : List Dyn → (Nat → V) → Hp → Prop} : ∀ (os : List Oper) (i : Nat) (t : Nat → V) (h : Hp) (acc : List Dyn), acc.length = i → (∀ k, os[k]? = ops[i + k]?) → drawB P tab ops n b i os t h acc K →
    ∃ ds t' h', ds.length = os.length ∧ K (acc ++ ds) t' h' ∧ (∀ f : Nat → Dyn, (∀ (j : Nat) (d : Dyn), ds[j]? = some d → f (i + j) = d) →
      Chain (fun i s1 s2 => DStep P tab ops n b i (f i) s1.1 s1.2 s2.1 s2.2) (List.range' i os.length) (t, h) (t', h')) := by
  intro os
  induction os with
  | nil => intro i t h acc _ _ hk; exact ⟨[], t, h, rfl, by simpa [drawB] using hk, fun f _ => .nil _⟩
  | cons o os ih =>
    intro i t h acc hacc hos hk
    have ho : ops[i]? = some o := by have := hos 0; simpa using this.symm
    have hos' : ∀ k, (os[k]?) = ops[i + 1 + k]? := by
      intro k
      have := hos (k + 1)
      rw [List.getElem?_cons_succ] at this
      rw [this]; congr 1; omega
    obtain ⟨x, hg, hdst, h1, h2⟩ := hk
    cases x with
    | true =>
      obtain ⟨d, v, u, hd, hk⟩ := h1 rfl
      obtain ⟨ds, t', h2', e1, e2, e3⟩ := ih (i + 1) _ _ _ (by simp [hacc]) hos' hk
      refine ⟨d :: ds, t', h2', by simp [e1], by simpa using e2, fun f hf => ?_⟩
      rw [List.length_cons, List.range'_succ]
      have h0 := hf 0 d rfl
      rw [Nat.add_zero] at h0
      refine .cons (s1 := (putT o.dst v t, appU h u)) ⟨o, ho, hdst, .inl ⟨hg, v, u, by rw [h0]; exact hd, rfl, rfl⟩⟩ (e3 f fun j d hj => ?_)
      rw [← hf (j + 1) d (by simpa using hj)]; congr 1; omega
    | false =>
      have hk := h2 rfl
      obtain ⟨ds, t', h2', e1, e2, e3⟩ := ih (i + 1) _ _ _ (by simp [hacc]) hos' hk
      refine ⟨⟨[], [], [], false⟩ :: ds, t', h2', by simp [e1], by simpa using e2, fun f hf => ?_⟩
      rw [List.length_cons, List.range'_succ]
      refine .cons (s1 := (putT o.dst V.no t, h)) ⟨o, ho, hdst, .inr ⟨hg, rfl, rfl⟩⟩ (e3 f fun j d hj => ?_)
      rw [← hf (j + 1) d (by simpa using hj)]; congr 1; omega

theorem awp_draw (ht : TabOk P tab) (hmix : P.follows .mixedOrders = true) {id : Nat} {ops : Array Oper} {Q : Ex → St → Prop} {s : St} (hm : M0.le (Lt s.b))
    (h : drawB P tab ops s.n s.b 0 ops.toList s.t s.h [] fun ds t' h' => okD ops ds = true ∧ Q .normal ⟨t', h', s.b + 64 * ops.size, s.n⟩) : AWP P M0 (.region id ops true) Q s := by
  obtain ⟨ds, t', h', e1, ⟨e2, e3⟩, e4⟩ := drawB_chain ops ops.toList 0 s.t s.h [] rfl (fun k => by simp) h
  rw [List.nil_append] at e2
  have hc := e4 (fun i => ds.getD i dyn0) (fun j d hj => by simp [List.getD_eq_getElem?_getD, hj])
  refine draw_sound ht hmix hm e2 ?_ e3
  simpa [List.range_eq_range'] using hc

/-! ### code, with regions that draw -/
def awpD (P : Program) (tab : Tab) (M0 : Nm) : Code → (Ex → St → Prop) → St → Prop
  | .skip, Q, s => Q .normal s
  | .label _, Q, s => Q .normal s
  | .seq c d, Q, s => awpD P tab M0 c (thenB (awpD P tab M0 d Q) Q) s
  | .cond x c d, Q, s => condB (evS s.t x) (awpD P tab M0 c Q s) (awpD P tab M0 d Q s)
  | .block id c, Q, s => awpD P tab M0 c (blockB id Q) s
  | .exit i, Q, s => Q (.exit i) s
  | .ret, Q, s => Q .ret s
  | .region id ops draw, Q, s => match draw with
    | false => M0.le (Lt s.b) ∧ awpOps P tab ops s.n ops.toList s.b s.t s.h fun t h b => Q .normal ⟨t, h, b, s.n⟩
    | true => M0.le (Lt s.b) ∧ drawB P tab ops s.n s.b 0 ops.toList s.t s.h [] fun ds t' h' => okD ops ds = true ∧ Q .normal ⟨t', h', s.b + 64 * ops.size, s.n⟩
  | c, Q, s => AWP P M0 c Q s

theorem awpD_sound (ht : TabOk P tab) (hmix : P.follows .mixedOrders = true) : ∀ (c : Code) (Q : Ex → St → Prop) (s : St), awpD P tab M0 c Q s → AWP P M0 c Q s := by
  intro c
  induction c with
  | skip => exact fun Q s h => awp_skip h
  | label l => exact fun Q s h => awp_label h
  | seq c d ih1 ih2 =>
    intro Q s h
    refine awp_seq (AWP.mono (ih1 _ s h) fun x s' hx => ?_)
    cases x with
    | normal => exact ih2 Q s' hx
    | _ => exact hx
  | cond x c d ih1 ih2 =>
    intro Q s h
    simp only [awpD, condB] at h
    split at h
    · next b hb => exact awp_cond hb (fun e => ih1 Q s (h.1 e)) (fun e => ih2 Q s (h.2 e))
    · exact h.elim
  | block id c ih => exact fun Q s h => awp_block (ih _ s h)
  | exit i => exact fun Q s h => awp_exit h
  | ret => exact fun Q s h => awp_ret h
  | region id ops draw =>
    intro Q s h
    cases draw with
    | false => exact awp_region ht h.1 h.2
    | true => exact awp_draw ht hmix h.1 h.2
  | _ => exact fun Q s h => h
end
end Go.Proofs.Ytmihhkcbbdpnaaa.Abs
