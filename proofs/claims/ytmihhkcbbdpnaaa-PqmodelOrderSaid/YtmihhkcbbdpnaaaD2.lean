/- The bridge, second part: from a contract over data to a law's row. -/
import Derived.Test.YtmihhkcbbdpnaaaD1
namespace Go.Proofs.Ytmihhkcbbdpnaaa.Abs
open Go.ChangeShapes Go.WideShapes Go.ChangeAt Go.RowKit Go.Deep
set_option linter.unusedVariables false
set_option linter.unusedSimpArgs false

/-- an argument of type t -/
def argB (b : Bool) (row : List D) : V :=
  match b with
  | true => .agg (row.map D.toV)
  | false => match row with
    | [d] => d.toV
    | _ => .un
def argV (tab : Tab) (t : TypeId) (row : List D) : V :=
  match tab t with
  | some τ => argB τ.agg row
  | none => .un
def AllR {α β : Type} (R : α → β → Prop) : List α → List β → Prop
  | [], [] => True
  | a :: l, b :: l' => R a b ∧ AllR R l l'
  | _, _ => False
theorem AllR.nil {α β : Type} {R : α → β → Prop} {r : List β} (h : AllR R [] r) : r = [] := by
  cases r with
  | nil => rfl
  | cons b l => exact h.elim
theorem AllR.cons {α β : Type} {R : α → β → Prop} {a : α} {l : List α} {r : List β} (h : AllR R (a :: l) r) : ∃ b l', r = b :: l' ∧ R a b ∧ AllR R l l' := by
  cases r with
  | nil => exact h.elim
  | cons b l' => exact ⟨b, l', rfl, h.1, h.2⟩
section
variable {P : Program} {tab : Tab} {H : Type} {enc : TypeId × Value → H} {w : World}
theorem openArg (ht : TabOk P tab) {m : Nat} {t : TypeId} (hok : okSh tab m t = true) {r : Reach} {b0 : Nat} {v : Value} {d : DataW H} {ps : List MemPlace} (hval : Value.okWide P w r b0 t v) (h : DataW.Trod enc P w 0 (fun _ => true) true t v d ps) (ids : Nat → Nat × Nat) :
    ∃ row, ShapeD tab m t row ∧ RepV (fun _ => False) ids w (argV tab t row) v := by
  obtain ⟨n, hn⟩ := h
  obtain ⟨row, hs, hl, hrep⟩ := openRow ht m t n _ _ hok hn
  refine ⟨row, hs, ?_⟩
  obtain ⟨τ, hτ⟩ := okSh_tab hok
  obtain ⟨-, ⟨d0, hu, hf⟩, -⟩ := ht t τ hτ
  have hag : ∀ b, τ.agg = b → argV tab t row = argB b row := by
    intro b hb
    unfold argV; rw [hτ]; dsimp only; rw [hb]
  have one : τ.agg = false → (∀ cs, v ≠ .agg cs) → RepV (fun _ => False) ids w (argV tab t row) v := by
    intro ha hv
    have hc : v.cells.toList = [v] := by
      cases v with
      | agg cs => exact absurd rfl (hv cs)
      | _ => rfl
    rw [hc] at hl hrep
    obtain ⟨x, rfl⟩ := List.length_eq_one_iff.1 hl
    rw [hag _ ha]
    exact (hrep 0 x v rfl rfl).toV
  cases m with
  | zero => cases hok
  | succ m =>
    unfold okSh at hok
    rw [hτ] at hok
    dsimp only at hok
    generalize hk : τ.kind = kind at hok hf
    cases kind <;> try cases hok
    case int k =>
      have ha : τ.agg = false := by simpa using hok
      rw [ha] at hf
      cases hf
      refine one ha fun cs e => ?_
      subst e
      simp [Value.okWide, hu, Cell.okWide, Cell.ok] at hval
    case bool =>
      have ha : τ.agg = false := by simpa using hok
      rw [ha] at hf
      cases hf
      refine one ha fun cs e => ?_
      subst e
      simp [Value.okWide, hu, Cell.okWide, Cell.ok] at hval
    case slice e =>
      rw [Bool.and_eq_true] at hok
      have ha : τ.agg = false := by simpa using hok.1
      rw [ha] at hf
      cases hf
      refine one ha fun cs e => ?_
      subst e
      simp [Value.okWide, hu, Cell.okWide, Cell.ok] at hval
    case struct fs =>
      rw [Bool.and_eq_true] at hok
      have ha : τ.agg = true := hok.1
      rw [ha] at hf
      cases hf with
      | struct fa _ hfl =>
      rw [hag _ ha]
      obtain ⟨cs, rfl, _, _⟩ : ∃ cs, v = .agg cs ∧ cs.size = P.cellsOf t ∧ Row.okWide P w r b0 t cs := by
        simpa [Value.okWide, hu] using hval
      refine .agg _ _ (by simpa [Value.cells] using hl.symm) fun i x u hx hui => ?_
      rw [List.getElem?_map, Option.map_eq_some_iff] at hx
      obtain ⟨q, hq, rfl⟩ := hx
      exact (hrep i q u hq (by simpa [Value.cells] using hui)).toV
theorem openAll (ht : TabOk P tab) {m : Nat} {r : Reach} {b0 : Nat} (ids : Nat → Nat × Nat) : ∀ (ts : List TypeId) (vs : List Value) (ds : List (DataW H)) (ps : List MemPlace), DataW.TrodAll enc P w 0 (fun _ => true) true ts vs ds ps →
    (∀ (j : Nat) (t : TypeId) (v : Value), ts[j]? = some t → vs[j]? = some v → Value.okWide P w r b0 t v) → (∀ t ∈ ts, okSh tab m t = true) →
    ∃ rows, AllR (ShapeD tab m) ts rows ∧ vs.length = ts.length ∧ ds.length = ts.length ∧ (List.zipWith (argV tab) ts rows).length = ts.length ∧ ∀ (j : Nat) (x : V) (v : Value), (List.zipWith (argV tab) ts rows)[j]? = some x → vs[j]? = some v → RepV (fun _ => False) ids w x v
  | [], vs, ds, ps, h, _, _ => by
    obtain ⟨rfl, rfl, rfl⟩ := trodAll_nil h
    exact ⟨[], trivial, rfl, rfl, rfl, by simp⟩
  | t :: ts, vs, ds, ps, h, hv, hok => by
    obtain ⟨v, vs', d, ds', p, q, rfl, rfl, rfl, h1, h2⟩ := trodAll_cons h
    obtain ⟨row, s1, s2⟩ := openArg ht (hok t (by simp)) (hv 0 t v rfl rfl) h1 ids
    obtain ⟨rows, s3, s4, s5, s6, s7⟩ := openAll ht ids ts vs' ds' q h2 (fun j t v a b => hv (j + 1) t v a b) (fun t h => hok t (by simp [h]))
    refine ⟨row :: rows, ⟨s1, s3⟩, by simp [s4], by simp [s5], by simpa using s6, fun j x v hx hv => ?_⟩
    cases j with
    | zero => simp at hx hv; subst hx; subst hv; exact s2
    | succ j => exact s7 j x v (by simpa using hx) (by simpa using hv)
theorem staysAll (hl : laidOutB P = true) {W W' : World} {sp : Nat → Bool} : ∀ (ts : List TypeId) (vs : List Value) (ds : List (DataW H)) (ps : List MemPlace), DataW.TrodAll enc P W 0 (fun _ => true) true ts vs ds ps →
    (∀ t ∈ ts, P.readableRec t = true ∧ t < P.types.size) → (∀ p ∈ ps, W.sameAt W' p) → (∀ p ∈ ps, sp p.block = true) → DataW.TrodAll enc P W' 0 sp true ts vs ds ps
  | [], vs, ds, ps, h, _, _, _ => by
    obtain ⟨rfl, rfl, rfl⟩ := trodAll_nil h
    exact trodAll_mk0
  | t :: ts, vs, ds, ps, h, hr, hs, hp => by
    obtain ⟨v, vs', d, ds', p, q, rfl, rfl, rfl, h1, h2⟩ := trodAll_cons h
    exact ⟨p, q, Go.WideElems.Trod_stays hl (hr t (by simp)).1 (hr t (by simp)).2 h1 (fun x hx => hs x (by simp [hx])) (fun x hx => hp x (by simp [hx])),
      staysAll hl ts vs' ds' q h2 (fun t h => hr t (by simp [h])) (fun x hx => hs x (by simp [hx])) (fun x hx => hp x (by simp [hx])), rfl⟩

/-- a row's contract, from the contract over data -/
theorem rowCalls (ht : TabOk P tab) {f : FuncId} {fn : Func} {s : ChangeSpec} (m : Nat) {ts : List TypeId} (hts : fn.params.toList = ts) (hl : laidOutB P = true) (hr0 : (fn.params.toList.all fun t => P.readableRec t && (Nat.blt t P.types.size && okSh tab m t)) = true) (hvars : s.vars = [])
    (hsfn : ∀ ds : List (DataW H), ds.length = fn.params.size → s.fn H ds = { results := [.lit (.bool true)], args := ds }) {tb : TypeId} (hrt : fn.resultTypes = #[tb]) (hub : P.underlying tb = some .bool)
    (spec : ∀ rows : List (List D), AllR (ShapeD tab m) ts rows → PSpec P f (List.zipWith (argV tab) ts rows) (V.bool true))
    {apart fresh handsOn again : Bool} (W : World) (base : Nat) (args : Array Value) (ds gs : List (DataW H)) (before : List MemPlace)
    (hval : ∀ (j : Nat) t v, fn.params[j]? = some t → args[j]? = some v → Value.okWide P W .any base t v) (hW : DataW.Whole enc P fn.params.toList s.vars apart W args.toList ds gs before) :
    Calls P f args W fun e W' => ∃ v, e = .returned v ∧ s.post enc P fn apart fresh handsOn again W args v W' := by
  subst hts
  have hr : ∀ t ∈ fn.params.toList, (P.readableRec t = true ∧ t < P.types.size) ∧ okSh tab m t = true := by
    intro t h
    have := List.all_eq_true.1 hr0 t h
    rw [Bool.and_eq_true, Bool.and_eq_true] at this
    exact ⟨⟨this.1, by simpa using this.2.1⟩, this.2.2⟩
  have hW' := hW
  obtain ⟨p, q, hA, hV, hps, hfz, hnd⟩ := hW
  rw [hvars] at hV
  obtain ⟨rfl, rfl⟩ := trodVars_none hV
  rw [List.append_nil] at hps
  subst hps
  obtain ⟨rows, s1, s2, s3, s4, s5⟩ := openAll (b0 := base) ht (fun _ => (0, 0)) fn.params.toList args.toList ds before hA (fun j t v h1 h2 => hval j t v (by simpa using h1) (by simpa using h2)) (fun t h => (hr t h).2)
  obtain ⟨_, c⟩ := (spec rows s1).2.2 (fun _ => False) (fun _ => (0, 0)) W args (fun b h => h.elim) (by rw [s4, ← s2]; simp) (fun i x v hx hv => s5 i x v hx (by simpa using hv))
  refine c.mono ?_
  rintro e W' ⟨v, rfl, hrv, hg⟩
  have hv : v = .bool true := by cases hrv; rfl
  subst hv
  have hfn := hsfn (ds ++ []) (by rw [List.append_nil, s3]; simp)
  refine ⟨_, rfl, post_of_same (pa := before) (pv := []) hW' (fun b sp hd => ?_) (fun sp hsp => ?_) (fun sp hsp => ?_) (by simp) (hg.grown.frame _) hg.frz (ok_one hrt rfl ?_)⟩
  · rw [hfn, hrt]
    exact trodAll_mk1 ⟨1, by simp [DataW.trod, Value.cells, hub]⟩
  · rw [hfn]
    show DataW.TrodAll enc P W' 0 sp true fn.params.toList args.toList (ds ++ []) before
    rw [List.append_nil]
    refine staysAll hl _ _ _ _ hA (fun t h => (hr t h).1) (fun x hx => ?_) hsp
    have hb : x.block < W.heap.size := hW'.lt x hx
    cases x with
    | cell b off => exact cell_same (hg.same b hb fun h => h) off
    | map b => exact hg.same b hb fun h => h
  · rw [hfn, hvars]; rfl
  · simp [Value.okWide, hub, Cell.okWide, Cell.ok]
end
end Go.Proofs.Ytmihhkcbbdpnaaa.Abs
