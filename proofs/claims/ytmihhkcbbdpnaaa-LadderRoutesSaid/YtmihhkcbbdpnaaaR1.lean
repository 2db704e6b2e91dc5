/- Ranges over functions: the rule, from what the iterator hands to its rounds. -/
import Derived.Test.YtmihhkcbbdpnaaaL3
namespace Go.Proofs.Ytmihhkcbbdpnaaa.Abs
open Go.Proofs Go.RowKit
set_option linter.unusedVariables false
set_option linter.unusedSimpArgs false
section
variable {P : Program} {tab : Tab}

/-- the iterator gf, bound to lb, begun in a world that has gone on from w but for the blocks A: it hands the elements of xs to its rounds, one after the other; a round ends it -/
def SeqX {α : Type} (P : Program) (gf : Nat) (lb : Array Value) (encs : α → Array Value) (xs : List α) (w : World) (A : Nat → Prop) : Prop :=
  ∀ (l dep : Nat) (J Jx : List α → World → Prop) (W : World), Goes (fun _ => False) w W →
    (∀ pre X Y, J pre X → Goes (fun _ => False) X Y → J pre Y) → (∀ pre X Y, Jx pre X → Goes (fun _ => False) X Y → Jx pre Y) → (∀ pre X, J pre X → Goes A w X) →
    (∀ pre x X, J pre X → pre ++ [x] <+: xs → YieldAt (Fw none) dep P l (encs x) X fun e Y => (e = .returned (.bool true) ∧ J (pre ++ [x]) Y) ∨ (e = .returned (.bool false) ∧ Jx (pre ++ [x]) Y)) →
    J [] W → CallsIn (Fw none) (dep + 1) P gf (#[.func (.yield l) #[] #[]] ++ lb) W fun e Y => (∃ v, e = .returned v) ∧ (J xs Y ∨ ∃ pre, Jx pre Y)

theorem Goes.aside {A : Nat → Prop} {w w' w2 : World} (h : Goes A w w') (k : Aside w' w2) (hs : ∀ b, b < w.heap.size → ¬ A b → w2.heap[b]? = w'.heap[b]?) : Goes A w w2 :=
  ⟨Nat.le_trans h.size k.size, fun b hb ha => (hs b hb ha).trans (h.same b hb ha), fun b arr T fz hb => by
    obtain ⟨arr', h1, h2⟩ := h.shape b arr T fz hb
    exact ⟨arr', k.keep _ (.cells _ _ _) trivial h1, h2⟩, fun b es q hb => by
    obtain ⟨es', q', h1⟩ := h.mapx b es q hb
    exact ⟨es', q', k.keep _ (.map _ _) trivial h1⟩, ⟨k.env.1.trans h.env.1, k.env.2.trans h.env.2⟩, fun a => (k.frz a).trans (h.frz a)⟩
theorem RepH.still {F : Nat → Prop} {ids : Nat → Nat × Nat} {w w' : World} {h : Hp} {M : Nm} (hh : RepH F ids w h M) (hg : Goes (fun _ => False) w w') : RepH F ids w' h M :=
  ⟨hh.lt, fun n b hb => (hh.blk n b hb).mono (A := Avoid F h ids) (hg.weaken fun _ _ x => x.elim) (fun _ _ x => x) (fun _ _ => rfl) (hh.below n b hb) (fun hr => hg.same _ ((hh.blk n b hb).lt hr) (fun x => x)), hh.below, hh.inj, hh.out, fun b hb => Nat.lt_of_lt_of_le (hh.fsz b hb) hg.size⟩

theorem live_cm {F : Nat → Prop} {ids : Nat → Nat × Nat} {w : World} {h : Hp} {nx : Nm} (hh : RepH F ids w h nx) {r : Nat} {o : Obj} (hr : w.heap[r]? = some o) (ho : ¬ cellsOrMap o) : ¬ Live h ids r := by
  rintro ⟨n, x, hn, hx, rfl⟩
  have hb := hh.blk n x hn
  cases x with
  | rows sz rs => obtain ⟨arr, T, h1, _⟩ := hb; rw [hr] at h1; cases h1; exact ho trivial
  | dat sz rs => obtain ⟨arr, T, h1, _⟩ := hb.1 (by rintro rfl; simp [B.real] at hx); rw [hr] at h1; cases h1; exact ho trivial
  | map es => obtain ⟨ar, k, h1, _⟩ := hb; rw [hr] at h1; cases h1; exact ho trivial
theorem marks_ne {w : World} {ds : List Deferred} (hm : Marks w ds) : ∀ d ∈ ds, d.target ≠ .collected w.heap.size := by
  induction hm with
  | nil => intro d hd; cases hd
  | cons r ds h hn hr ih =>
    intro d hd
    rcases List.mem_cons.1 hd with rfl | hd
    · intro e
      have := (Array.getElem?_eq_some_iff.1 h).1
      cases e; omega
    · exact ih d hd
theorem marks_put {w : World} {ds : List Deferred} (hm : Marks w ds) {l : Nat} {r : Loop} (hl : w.heap[l]? = some (.loop r)) (o : Obj) : Marks (w.putObj l o) ds := by
  induction hm with
  | nil => exact .nil
  | cons q ds h hn hr ih =>
    refine .cons q ds ?_ hn ih
    rw [World.putObj_heap_other fun e => by subst e; rw [h] at hl; cases hl]
    exact h
/-- the parameters of a round are put into its slots -/
def psT : List Nat → List V → List V → List V
  | p :: ps, v :: vs, t => psT ps vs (t.set p v)
  | _, _, t => t
theorem psT_len : ∀ (ps : List Nat) (vs t : List V), (psT ps vs t).length = t.length
  | [], _, t => rfl
  | _ :: _, [], t => rfl
  | p :: ps, v :: vs, t => by rw [psT, psT_len ps vs, List.length_set]
theorem tAt_none : ∀ {t : List V} {i : Nat}, t.length ≤ i → tAt t i = .un
  | [], _, _ => rfl
  | _ :: t, 0, h => by simp at h
  | _ :: t, i + 1, h => tAt_none (t := t) (by simpa using h)
theorem tAt_setI (t : List V) (p i : Nat) (v : V) : tAt (t.set p v) i = if i = p ∧ p < t.length then v else tAt t i := by
  by_cases h : p < t.length
  · rw [tAt_set _ _ _ _ h]; by_cases e : i = p <;> simp [e, h]
  · rw [List.set_eq_of_length_le (by omega), if_neg (by omega)]
theorem psT_rep {A : Nat → Prop} {ids : Nat → Nat × Nat} {w : World} : ∀ (ps : List Nat) (vs : List V) (us : List Value) (t : List V) (tm : Array Value), tm.size = t.length → us.length = vs.length →
    (∀ (i : Nat) (v : V) (u : Value), vs[i]? = some v → us[i]? = some u → RepV A ids w v u) → (∀ i, RepV A ids w (tAt t i) (tm.getD i undef)) →
    ((ps.zip us).foldl (fun a (p, v) => a.setIfInBounds p v) tm).size = t.length ∧ ∀ i, RepV A ids w (tAt (psT ps vs t) i) (((ps.zip us).foldl (fun a (p, v) => a.setIfInBounds p v) tm).getD i undef)
  | [], vs, us, t, tm, hs, _, _, hr => ⟨hs, by simpa [psT] using hr⟩
  | _ :: _, [], [], t, tm, hs, _, _, hr => ⟨hs, by simpa [psT] using hr⟩
  | p :: ps, v :: vs, u :: us, t, tm, hs, hl, hv, hr => by
    rw [List.zip_cons_cons, List.foldl_cons, psT]
    have := psT_rep ps vs us (t.set p v) (tm.setIfInBounds p u) (by simp [hs]) (by simpa using hl) (fun i a b h1 h2 => hv (i + 1) a b (by simpa using h1) (by simpa using h2)) fun i => by
      rw [tAt_setI]
      by_cases e : i = p ∧ p < t.length
      · rw [if_pos e]
        obtain ⟨rfl, hp⟩ := e
        rw [Array.getD_eq_getD_getElem?, Array.getElem?_setIfInBounds, if_pos rfl, if_pos (by omega)]
        exact hv 0 v u rfl rfl
      · rw [if_neg e, Array.getD_eq_getD_getElem?, Array.getElem?_setIfInBounds]
        by_cases e1 : p = i
        · subst e1
          rw [if_pos rfl, if_neg (by omega)]
          have := hr p
          rw [Array.getD_eq_getD_getElem?, Array.getElem?_eq_none (by omega)] at this
          exact this
        · rw [if_neg e1, ← Array.getD_eq_getD_getElem?]; exact hr i
    rw [List.length_set] at this
    exact this
theorem psT_below {M : Nm} : ∀ (ps : List Nat) (vs : List V) (t : List V), (∀ v ∈ vs, v.Below M) → (∀ i, (tAt t i).Below M) → ∀ i, (tAt (psT ps vs t) i).Below M
  | [], _, t, _, ht, i => ht i
  | _ :: _, [], t, _, ht, i => ht i
  | p :: ps, v :: vs, t, hv, ht, i => by
    refine psT_below ps vs (t.set p v) (fun x hx => hv x (by simp [hx])) (fun j => ?_) i
    rw [tAt_setI]
    split
    · exact hv v (by simp)
    · exact ht j

/-- behind a round: it goes on with the state of the next one, or leaves the loop -/
inductive RoundB (N : Nat) (H : List (Nat × B)) (t : List V) (h : List (Nat × B)) : Prop
  | mk (ρ : List (Nat × Nat)) (hk : subK ρ N (N + 64) (keepT 0 [] t) H t h) : RoundB N H t h
def rangeK (N : Nat) (H : List (Nat × B)) (K : Ex → List (Nat × B) → Nat → Prop) (e : Ex) (t : List V) (h : List (Nat × B)) (b : Nat) : Prop :=
  match e with
  | .normal => RoundB N H t h
  | .ret => K .ret h b
  | .exit i => K (.exit i) h b

/-- a range over a function: caps is what its value is bound to; vs x: what a round is handed; H pre: the blocks behind the rounds of pre -/
theorem rangeB (ht : TabOk P tab) (hmix : P.follows .mixedOrders = true) {N : Nat} {g : Operand} {ps : Array Tmp} {assign body : Code} {t : List V} {h : List (Nat × B)} {b : Nat} {K : Ex → List V → List (Nat × B) → Nat → Prop} {α : Type} (hb : N ≤ b)
    {gf : Nat} {caps : List V} (hg : evS (tAt t) g = .fn (.func gf) [] caps) (eg : ∀ args w, (callFunc gf args).run P w = .ok (.enter gf args) w) (hn1 : noRange assign = true) (hn2 : noRange body = true)
    (encs : α → Array Value) (vs : α → List V) (xs : List α) (hps : ∀ x, (encs x).size = ps.size ∧ (vs x).length = ps.size) (hbl : ∀ x, ∀ v ∈ vs x, v.Below fun _ => False)
    (hval : ∀ (x : α) (A : Nat → Prop) (ids : Nat → Nat × Nat) (w : World) (i : Nat) (v : V) (u : Value), (vs x)[i]? = some v → (encs x)[i]? = some u → RepV A ids w v u)
    (hit : ∀ (F : Nat → Prop) (ids : Nat → Nat × Nat) (w : World) (lb : Array Value), RepH F ids w (hAt h) (Lt b) → lb.size = caps.length → (∀ (i : Nat) (x : V) (v : Value), caps[i]? = some x → lb[i]? = some v → RepV (Avoid F (hAt h) ids) ids w x v) →
      SeqX P gf lb encs xs w (Live (hAt h) ids))
    (H : List α → List (Nat × B)) (h0 : H [] = h)
    (round : ∀ pre x, pre ++ [x] <+: xs → codeK P tab b assign (psT ps.toList (vs x) t) (H pre) (b + 64) fun e t1 h1 b1 => match e with
      | .normal => codeK P tab b body t1 h1 b1 (rangeK b (H (pre ++ [x])) fun e h2 b2 => K e t h2 b2)
      | _ => False)
    (done : K .normal t (H xs) (b + 64)) : CodeB P N (.rangeFunc g ps assign body) t h b K := by
  refine ⟨hb, fun rd hrd dep0 F ids w a hr => ?_⟩
  cases rd with
  | some l => exact absurd (hrd l rfl) (by simp [noRange])
  | none =>
  have hgv := evS_rep hr g
  dsimp only at hgv
  rw [hg] at hgv
  have hgb : V.Below (Lt b) (.fn (.func gf) [] caps) := by have := evS_below hr.below g; dsimp only at this; rw [hg] at this; exact this
  generalize hge : a.eval g = gv at hgv
  cases hgv with
  | fn _ _ _ ar lb hs1 hs2 hr1 hr2 =>
  obtain rfl : ar = #[] := Array.eq_empty_of_size_eq_zero hs1
  have hseq := hit F ids w lb hr.heap hs2 hr2
  have hsz : a.tmps.size = t.length := hr.size
  refine wpIn_rangeFunc ?_
  intro fn hfn
  obtain ⟨rec, hrec⟩ : ∃ rec : LoopState → Option Code → Loop, rec = fun st pe => { state := st, pending := pe, fn, tmps := a.tmps, params := ps, assign, body, defers := w.heap.size } := ⟨_, rfl⟩
  obtain ⟨W1, hW1⟩ : ∃ W1, (w.alloc (.deferred (some []))).alloc (.loop (rec .ready none)) = W1 := ⟨_, rfl⟩
  have hL1 : W1.heap[w.heap.size + 1]? = some (.loop (rec .ready none)) := by
    rw [← hW1]; have := World.alloc_heap_new (w.alloc (.deferred (some []))) (.loop (rec .ready none)); rwa [World.size_alloc] at this
  have hK1 : W1.heap[w.heap.size]? = some (.deferred (some [])) := by
    rw [← hW1]; exact (RowKit.Below.heap_alloc _ _ _ (by simp)).trans (World.alloc_heap_new w _)
  have hg1 : Goes (fun _ => False) w W1 := by
    rw [← hW1]; exact (Goes.alloc (fun _ => False) w _ (by intro _ _ _ h; cases h)).trans (Goes.alloc (fun _ => False) _ _ (by intro _ _ _ h; cases h)) fun _ _ x => x
  -- what lies between two rounds
  obtain ⟨Jc, hJc⟩ : ∃ Jc : List (Nat × B) → Nat → (Nat → Nat × Nat) → World → Prop, Jc = fun h' b' ids' X => RepH F ids' X (hAt h') (Lt b') ∧ Keep (Lt b) ids w (hAt h) ids' X (hAt h') := ⟨_, rfl⟩
  have soft : ∀ {h' b' ids' X Y}, Jc h' b' ids' X → Goes (fun _ => False) X Y → Jc h' b' ids' Y := by
    intro h' b' ids' X Y hj hg
    rw [hJc] at hj ⊢
    exact ⟨hj.1.still hg, ⟨hj.2.goes.trans hg fun _ _ x => x.elim, hj.2.live, hj.2.ids⟩⟩
  have put : ∀ {h' b' ids' X r o o'}, Jc h' b' ids' X → X.heap[r]? = some o → ¬ cellsOrMap o → ¬ cellsOrMap o' → w.heap.size ≤ r → Jc h' b' ids' (X.putObj r o') := by
    intro h' b' ids' X r o o' hj hX ho ho' hr'
    rw [hJc] at hj ⊢
    have ha := Aside.put hX ho ho'
    exact ⟨hj.1.aside ha, ⟨hj.2.goes.aside ha fun c hc _ => World.putObj_heap_other (by omega), hj.2.live, hj.2.ids⟩⟩
  have slots : ∀ {h' b' ids' X}, Jc h' b' ids' X → ∀ i, RepV (Avoid F (hAt h') ids') ids' X (tAt t i) (a.tmps.getD i undef) := by
    intro h' b' ids' X hj i
    rw [hJc] at hj
    exact (hr.tmps i).mono (hj.2.goes.weaken fun _ _ x => .inr x) (fun c hc x => x.imp id fun x => hj.2.live c hc x) hj.2.ids (hr.below i)
  have outer : ∀ {h' b' ids' X}, Jc h' b' ids' X → b ≤ b' → X.heap[w.heap.size]? = some (.deferred (some [])) →
      Rep F ids' X ⟨tAt t, hAt h', b', t.length⟩ { a with defers := { target := .collected w.heap.size, args := #[] } :: a.defers } ∧ KeepA (Lt N) ids w (hAt h) a ids' X (hAt h') { a with defers := { target := .collected w.heap.size, args := #[] } :: a.defers } := by
    intro h' b' ids' X hj hbb hD
    have hsl := slots hj
    rw [hJc] at hj
    refine ⟨⟨hj.1, hsl, hr.size, hr.out, fun i => (hr.below i).mono (Lt_le hbb), .cons _ _ hD (fun d hd he => ?_) (hr.defers.goes hr.heap hj.2.goes)⟩, ⟨hj.2.goes, hj.2.live, fun n hn => hj.2.ids n (Nat.lt_of_lt_of_le hn hb)⟩, [_], rfl, fun m hm => ?_⟩
    · exact marks_ne hr.defers d hd he
    · rcases List.mem_singleton.1 hm with rfl
      exact ⟨_, rfl, Nat.le_refl _⟩
  refine ⟨w.heap.size + 1, [{ target := .collected w.heap.size, args := #[] }], W1, { target := .fn (.func gf) lb, args := #[.func (.yield (w.heap.size + 1)) #[] #[]] }, W1, gf,
    #[.func (.yield (w.heap.size + 1)) #[] #[]] ++ lb, W1, ?_, ?_, fun _ _ => trivial, ?_, fun e => by simp [Fw, Fence.wide] at e, ?_⟩
  · rw [← hW1, hrec]; exact run_enterLoop_outer _ _ _ _ _
  · simp only [resolve, hge]
    simp [go_sem]
  · simp [invoke, go_sem, eg]
  have hcall := hseq (w.heap.size + 1) (dep0 - 1)
      (fun pre X => ∃ ids', Jc (H pre) (b + 64) ids' X ∧ X.heap[w.heap.size + 1]? = some (.loop (rec .ready none)) ∧ X.heap[w.heap.size]? = some (.deferred (some [])))
      (fun pre X => ∃ (e : Ex) (c : Code) (h2 : List (Nat × B)) (b2 : Nat) (ids' : Nat → Nat × Nat), (match e with | .normal => False | .ret => c = .ret | .exit i => c = .exit i) ∧ Jc h2 b2 ids' X ∧ b ≤ b2 ∧ K e t h2 b2 ∧
        X.heap[w.heap.size + 1]? = some (.loop (rec .done (some c))) ∧ X.heap[w.heap.size]? = some (.deferred (some [])))
      W1 hg1
      (fun pre X Y ⟨ids', hj, hl, hk⟩ hg => ⟨ids', soft hj hg, (hg.same _ (Array.getElem?_eq_some_iff.1 hl).1 fun x => x).trans hl, (hg.same _ (Array.getElem?_eq_some_iff.1 hk).1 fun x => x).trans hk⟩)
      (fun pre X Y ⟨e, c, h2, b2, ids', he, hj, hbb, hK, hl, hk⟩ hg => ⟨e, c, h2, b2, ids', he, soft hj hg, hbb, hK, (hg.same _ (Array.getElem?_eq_some_iff.1 hl).1 fun x => x).trans hl, (hg.same _ (Array.getElem?_eq_some_iff.1 hk).1 fun x => x).trans hk⟩)
      (fun pre X ⟨ids', hj, _, _⟩ => by rw [hJc] at hj; exact hj.2.goes)
      ?_ ⟨ids, by rw [hJc, h0]; exact ⟨(hr.heap.nx (Lt_le (Nat.le_add_right b 64))).still hg1, ⟨hg1.weaken fun _ _ x => x.elim, fun _ _ x => x, fun _ _ => rfl⟩⟩, hL1, hK1⟩
  · refine (CallsIn.calls hcall fun k => Fw.room k) |> callsIn_Fw |>.mono ?_
    rintro e W2 ⟨⟨v, rfl⟩, (⟨ids', hj, hl, hk⟩ | ⟨pre, e, c, h2, b2, ids', he, hj, hbb, hK, hl, hk⟩)⟩
    · obtain ⟨q1, q2⟩ := outer (put hj hl (fun x => x) (fun x => x) (by omega) (o' := .loop { rec .ready none with state := .exhausted })) (by omega) ((World.putObj_heap_other (by omega)).trans hk)
      have hp : (rec .ready none).pending = none := by rw [hrec]
      have he := (run_endLoop (P := P) hl (by rw [hrec]; simp)).trans (congrArg (fun p => Result.ok p (W2.putObj (w.heap.size + 1) (.loop { rec .ready none with state := .exhausted }))) hp)
      exact ⟨none, _, he, .normal, _, ids', trivial, ⟨t, _, _, rfl, rfl, by omega, done⟩, q1, q2⟩
    · obtain ⟨q1, q2⟩ := outer (put hj hl (fun x => x) (fun x => x) (by omega) (o' := .loop { rec .done (some c) with state := .exhausted })) hbb ((World.putObj_heap_other (by omega)).trans hk)
      have hp : (rec .done (some c)).pending = some c := by rw [hrec]
      have hend := (run_endLoop (P := P) hl (by rw [hrec]; simp)).trans (congrArg (fun p => Result.ok p (W2.putObj (w.heap.size + 1) (.loop { rec .done (some c) with state := .exhausted }))) hp)
      refine ⟨some c, _, hend, ?_⟩
      cases e with
      | normal => exact he.elim
      | ret =>
        obtain rfl : c = .ret := he
        exact wpIn_ret ⟨.ret, _, ids', trivial, ⟨t, _, _, rfl, rfl, by omega, hK⟩, q1, q2⟩
      | exit i =>
        obtain rfl : c = .exit i := he
        exact wpIn_exit ⟨.exit i, _, ids', rfl, ⟨t, _, _, rfl, rfl, by omega, hK⟩, q1, q2⟩
  · -- one round
    rintro pre x X ⟨ids', hj, hl, hk⟩ hpre
    have hlt : w.heap.size + 1 < X.heap.size := (Array.getElem?_eq_some_iff.1 hl).1
    have hy := run_yield (P := P) (args := encs x) hl (by rw [hrec]; exact (hps x).1)
    rw [hrec] at hy
    have hsl := slots hj
    have hj' := hj
    rw [hJc] at hj'
    have hrd' := round pre x hpre
    have hfold : ((ps.zip (encs x)).foldl (fun tmps (p, v) => tmps.setIfInBounds p v) a.tmps) = ((ps.toList.zip (encs x).toList).foldl (fun tmps (p, v) => tmps.setIfInBounds p v) a.tmps) := by
      rw [← Array.foldl_toList, Array.toList_zip]
    have hps' := psT_rep (A := Avoid F (hAt (H pre)) ids') (ids := ids') (w := X) ps.toList (vs x) (encs x).toList t a.tmps hsz (by simp [hps x]) (fun i v u h1 h2 => hval x _ _ _ i v u h1 (by simpa using h2)) hsl
    rw [← hfold] at hps'
    have hrep : Rep F ids' X ⟨tAt (psT ps.toList (vs x) t), hAt (H pre), b + 64, (psT ps.toList (vs x) t).length⟩ { tmps := (ps.zip (encs x)).foldl (fun tmps (p, v) => tmps.setIfInBounds p v) a.tmps, defers := [] } := by
      refine ⟨hj'.1, hps'.2, by rw [psT_len]; exact hps'.1, fun i hi => ?_, fun i => psT_below ps.toList (vs x) t (fun v hv => (hbl x v hv).mono fun _ x => x.elim) (fun j => (hr.below j).mono (Lt_le (Nat.le_add_right b 64))) i, .nil⟩
      dsimp only at hi ⊢
      exact tAt_none hi
    refine ⟨fn, _, assign, body, hy, roundIn_of_wpIn hfn (wpIn_mono (codeK_of ht hmix assign _ _ _ _ (by omega) hrd' (some (w.heap.size + 1)) (fun _ _ => hn1) _ F ids' X _ hrep) ?_)⟩
    rintro e a1 X1 ⟨y, s1, ids1, hye, ⟨t1, h1, b1, rfl, e1, hb1, hk1⟩, hr1, hkp1⟩
    cases y with
    | exit i => exact hk1.elim
    | ret => exact hk1.elim
    | normal =>
    cases e with
    | normal =>
      have hl1 : X1.heap[w.heap.size + 1]? = some (.loop (rec .ready none)) := (hkp1.goes.same _ hlt (live_cm hj'.1 hl fun x => x)).trans hl
      have hD1 : X1.heap[w.heap.size]? = some (.deferred (some [])) := (hkp1.goes.same _ (by omega) (live_cm hj'.1 hk fun x => x)).trans hk
      refine ⟨_, run_beginRound hl1 (by rw [hrec]), ?_⟩
      have ha2 := Aside.put hl1 (fun x => x) (fun x => x) (o' := .loop { rec .ready none with state := .busy })
      have hr2 := hr1.aside ha2 (ds := a1.defers) (marks_put hr1.defers hl1 _)
      refine wpIn_mono (codeK_of ht hmix body _ _ _ _ (by omega) hk1 (some (w.heap.size + 1)) (fun _ _ => hn2) _ F ids1 _ _ hr2) ?_
      rintro e a3 X3 ⟨y, s3, ids3, hye3, ⟨t3, h3, b3, rfl, e3, hb3, hk3⟩, hr3, hkp3⟩
      have hl2 : (X1.putObj (w.heap.size + 1) (.loop { rec .ready none with state := .busy })).heap[w.heap.size + 1]? = some (.loop { rec .ready none with state := .busy }) := World.putObj_heap_same (Array.getElem?_eq_some_iff.1 hl1).1
      have hD2 : (X1.putObj (w.heap.size + 1) (.loop { rec .ready none with state := .busy })).heap[w.heap.size]? = some (.deferred (some [])) := (World.putObj_heap_other (by omega)).trans hD1
      have hl3 : X3.heap[w.heap.size + 1]? = some (.loop { rec .ready none with state := .busy }) := (hkp3.goes.same _ (Array.getElem?_eq_some_iff.1 hl2).1 (live_cm hr2.heap hl2 fun x => x)).trans hl2
      have hD3 : X3.heap[w.heap.size]? = some (.deferred (some [])) := (hkp3.goes.same _ (Array.getElem?_eq_some_iff.1 hD2).1 (live_cm hr2.heap hD2 fun x => x)).trans hD2
      have k2 : Keep (Lt b) ids w (hAt h) ids1 (X1.putObj (w.heap.size + 1) (.loop { rec .ready none with state := .busy })) (hAt h1) := by
        have k1 := hj'.2.trans hkp1.toKeep
        exact ⟨k1.goes.aside ha2 fun c hc _ => World.putObj_heap_other (by omega), k1.live, k1.ids⟩
      have k3 := k2.trans hkp3.toKeep
      have hlt3 := (Array.getElem?_eq_some_iff.1 hl3).1
      cases y with
      | normal =>
        cases e with
        | normal =>
          obtain ⟨ρ, hsub⟩ := hk3
          obtain ⟨ids4, hr4, hk4⟩ := (subK_of (b' := b3) hsub).1 F ids3 X3 a3 hr3
          have hj4 : Jc (H (pre ++ [x])) (b + 64) ids4 X3 := by rw [hJc]; exact ⟨hr4.heap, k3.trans hk4⟩
          have he := run_endRound (P := P) none hl3
          refine ⟨_, _, he, .inl ⟨rfl, ids4, put hj4 hl3 (fun x => x) (fun x => x) (by omega), ?_, (World.putObj_heap_other (by omega)).trans hD3⟩⟩
          rw [World.putObj_heap_same hlt3, hrec]; rfl
        | _ => exact hye3.elim
      | ret =>
        cases e with
        | ret =>
          have hj4 : Jc h3 b3 ids3 X3 := by rw [hJc]; exact ⟨hr3.heap, k3⟩
          have he := run_endRound (P := P) (some .ret) hl3
          refine ⟨_, _, he, .inr ⟨rfl, .ret, .ret, h3, b3, ids3, rfl, put hj4 hl3 (fun x => x) (fun x => x) (by omega), hb3, hk3, ?_, (World.putObj_heap_other (by omega)).trans hD3⟩⟩
          rw [World.putObj_heap_same hlt3, hrec]; rfl
        | _ => exact hye3.elim
      | exit i =>
        cases e with
        | exit i' =>
          obtain rfl : i = i' := hye3
          have hj4 : Jc h3 b3 ids3 X3 := by rw [hJc]; exact ⟨hr3.heap, k3⟩
          have he := run_endRound (P := P) (some (.exit i)) hl3
          refine ⟨_, _, he, .inr ⟨rfl, .exit i, .exit i, h3, b3, ids3, rfl, put hj4 hl3 (fun x => x) (fun x => x) (by omega), hb3, hk3, ?_, (World.putObj_heap_other (by omega)).trans hD3⟩⟩
          rw [World.putObj_heap_same hlt3, hrec]; rfl
        | _ => exact hye3.elim
    | _ => exact hye.elim
end
end Go.Proofs.Ytmihhkcbbdpnaaa.Abs
