/- The bridge: what a law's row reads of its arguments, as data of the abstract machine. -/
import Derived.Test.YtmihhkcbbdpnaaaC9
import Derived.WalkKit
import Derived.ProofKit
import Derived.OpenShut
import Derived.WideKeyArgs
import Derived.Deep.Slices
namespace Go.Proofs.Ytmihhkcbbdpnaaa.Abs
open Go.ChangeShapes Go.WideShapes Go.ChangeAt Go.RowKit Go.Deep
set_option linter.unusedVariables false
set_option linter.unusedSimpArgs false

theorem Goes.grown {w w' : World} (h : Goes (fun _ => False) w w') : Grown w w' := by
  refine ⟨⟨h.env.1, h.env.2, fun i hi => ?_⟩, h.frz, h.size⟩
  rw [h.same i hi (fun x => x)]
  cases w.heap[i]? with
  | none => rfl
  | some o => cases o <;> simp

def sizeT (tab : Tab) (t : TypeId) : Nat :=
  match tab t with
  | some τ => τ.size
  | none => 0
def ShapeL (sh : TypeId → List D → Prop) : List (Nat × TypeId) → List D → Prop
  | [], row => row = []
  | p :: fs, row => ∃ a b, row = a ++ b ∧ sh p.2 a ∧ ShapeL sh fs b
/-- the data in row is of type t; m: how deep the type goes -/
def ShapeD (tab : Tab) : Nat → TypeId → List D → Prop
  | 0, _, _ => False
  | n + 1, t, row => match (tab t).map Ty.kind with
    | some (.int k) => ∃ x : Int, row = [.c (.int k x)] ∧ (Lit.int k x).wf = true
    | some .bool => ∃ b, row = [.c (.bool b)]
    | some (.slice e) => ∃ rows, row = [.lst (sizeT tab e) rows] ∧ rows.length ≤ maxLen ∧ ∀ r ∈ rows, ShapeD tab n e r
    | some (.struct fs) => ShapeL (ShapeD tab n) fs row
    | _ => False
def tiles (tab : Tab) : List (Nat × TypeId) → Nat → Nat → Bool
  | [], off, size => off == size
  | p :: fs, off, size => p.1 == off && tiles tab fs (off + sizeT tab p.2) size
def okSh (tab : Tab) : Nat → TypeId → Bool
  | 0, _ => false
  | n + 1, t => match tab t with
    | some τ => match τ.kind with
      | .int _ => !τ.agg
      | .bool => !τ.agg
      | .slice e => !τ.agg && (okSh tab n e && Nat.blt 0 (sizeT tab e))
      | .struct fs => τ.agg && (tiles tab fs 0 τ.size && fs.all fun p => okSh tab n p.2)
      | _ => false
    | none => false
def RepRow (w : World) (row : List D) (cs : List Value) : Prop := row.length = cs.length ∧ ∀ (j : Nat) (d : D) (v : Value), row[j]? = some d → cs[j]? = some v → RepD (fun _ => False) w d v
theorem RepRow.append {w : World} {a b : List D} {x y : List Value} (h : RepRow w a x) (h' : RepRow w b y) : RepRow w (a ++ b) (x ++ y) := by
  refine ⟨by simp [h.1, h'.1], fun j d v hd hv => ?_⟩
  by_cases hj : j < a.length
  · rw [List.getElem?_append_left hj] at hd
    rw [List.getElem?_append_left (by rw [← h.1]; exact hj)] at hv
    exact h.2 j d v hd hv
  · rw [List.getElem?_append_right (by omega)] at hd
    rw [List.getElem?_append_right (by rw [← h.1]; omega), ← h.1] at hv
    exact h'.2 _ d v hd hv
theorem RepRow.one {w : World} {d : D} {v : Value} (h : RepD (fun _ => False) w d v) : RepRow w [d] [v] := by
  refine ⟨rfl, fun j d' v' hd hv => ?_⟩
  cases j with
  | zero => simp at hd hv; subst hd; subst hv; exact h
  | succ j => simp at hd

section
variable {P : Program} {tab : Tab} {H : Type} {enc : TypeId × Value → H} {w : World}
theorem cells_size (ht : TabOk P tab) {t : TypeId} {τ : Ty} (h : tab t = some τ) : P.cellsOf t = τ.size := by
  obtain ⟨⟨i, z, h1, h2, _⟩, _, _⟩ := ht t τ h
  simp [Program.cellsOf, h1, h2]
theorem okSh_tab {m : Nat} {t : TypeId} (h : okSh tab m t = true) : ∃ τ, tab t = some τ := by
  cases m with
  | zero => cases h
  | succ m =>
    unfold okSh at h
    split at h
    · next τ hτ => exact ⟨τ, hτ⟩
    · cases h
theorem okSh_size (ht : TabOk P tab) {m : Nat} {t : TypeId} (h : okSh tab m t = true) : P.cellsOf t = sizeT tab t := by
  obtain ⟨τ, hτ⟩ := okSh_tab h
  rw [cells_size ht hτ, sizeT, hτ]

theorem openRow (ht : TabOk P tab) : ∀ (m : Nat) (t : TypeId) (n : Nat) (cs : List Value) (x : DataW H × List MemPlace), okSh tab m t = true → DataW.trod enc P w 0 (fun _ => true) true n t cs = some x → ∃ row, ShapeD tab m t row ∧ RepRow w row cs := by
  intro m
  induction m with
  | zero => intro t n cs x h; cases h
  | succ m ih =>
    intro t n cs x hok h
    unfold okSh at hok
    split at hok
    case h_2 => cases hok
    next τ hτ =>
    obtain ⟨-, ⟨d0, hu, hf⟩, -⟩ := ht t τ hτ
    obtain ⟨sz, by_, ag, ze, kind⟩ := τ
    dsimp only at hok hf
    cases kind <;> try cases hok
    case int k =>
      cases hf
      obtain ⟨n, rfl, rfl, hwf⟩ := DataW.trod_int hu h
      exact ⟨[.c (.int k n)], by unfold ShapeD; rw [hτ]; exact ⟨n, rfl, hwf⟩, .one (.c _ rfl)⟩
    case bool =>
      cases hf
      obtain ⟨b, rfl, rfl⟩ := DataW.trod_bool hu h
      exact ⟨[.c (.bool b)], by unfold ShapeD; rw [hτ]; exact ⟨b, rfl⟩, .one (.c _ rfl)⟩
    case slice e =>
      cases hf
      rw [Bool.and_eq_true, Bool.and_eq_true] at hok
      obtain ⟨_, hok1, hpos⟩ := hok
      have hpos : 0 < sizeT tab e := by simpa using hpos
      have hsz := okSh_size ht hok1
      have hS : ∀ rows : List (List D), rows.length ≤ maxLen → (∀ r ∈ rows, ShapeD tab m e r) → ShapeD tab (m + 1) t [.lst (sizeT tab e) rows] := by
        intro rows h1 h2
        unfold ShapeD; rw [hτ]; exact ⟨rows, rfl, h1, h2⟩
      rcases open_slice hu h with ⟨rfl, _⟩ | ⟨a, len, cap, mm, n', Dd, Pl, rfl, _, hl, hm, hmm, _, hx⟩
      · exact ⟨_, hS [] (by simp) (by simp), .one (.emp _ _ _)⟩
      · by_cases h0 : len = 0
        · subst h0; exact ⟨_, hS [] (by simp) (by simp), .one (.emp _ _ _)⟩
        have hmm : mm = cap := hmm
        obtain ⟨f, hf⟩ := choose_lt (α := List Value × List D) (n := len) (p := fun i q => w.cells? 0 (a.add (i * P.cellsOf e)) (P.cellsOf e) = some q.1 ∧ ShapeD tab m e q.2 ∧ RepRow w q.2 q.1) (fun i hi => by
          obtain ⟨cs', h1, h2⟩ := hx i (by omega)
          obtain ⟨row, h3, h4⟩ := ih e n' cs' _ hok1 h2
          exact ⟨(cs', row), h1, h3, h4⟩)
        rw [hsz] at hf
        have hcell : ∀ i, i < len → (f i).1.length = sizeT tab e ∧ ∀ j, j < sizeT tab e → w.cell? (a.add (i * sizeT tab e + j)) = (f i).1[j]? := by
          intro i hi
          obtain ⟨_, h2, h3⟩ := World.cells?_some (hf i hi).1
          exact ⟨h2, fun j hj => by rw [← add_add]; exact h3 j hj⟩
        have hc00 : ∃ v, w.cell? a = some v := by
          obtain ⟨h2, h3⟩ := hcell 0 (by omega)
          have := h3 0 hpos
          rw [List.getElem?_eq_getElem (by omega)] at this
          rw [Nat.zero_mul] at this
          exact ⟨_, by simpa [Addr.add] using this⟩
        obtain ⟨v0, hv0⟩ := hc00
        have hspot := World.cell?_spot hv0
        obtain ⟨b, o, spot⟩ := a
        dsimp only at hspot
        subst hspot
        have hadd : ∀ k, Addr.add ⟨b, o, none⟩ k = ⟨b, o + k, none⟩ := by
          intro k
          unfold Addr.add
          by_cases hk : k = 0 <;> simp [hk]
        have hb : b < w.heap.size := by
          by_cases hb : b < w.heap.size
          · exact hb
          · simp [World.cell?, show w.heap[b]? = none from by simp; omega] at hv0
        have hrow : ∀ i r, ((List.range len).map fun i => (f i).2)[i]? = some r → i < len ∧ r = (f i).2 := by
          intro i r hi
          by_cases hl2 : i < len
          · rw [List.getElem?_map, List.getElem?_range hl2] at hi
            exact ⟨hl2, (Option.some.inj hi).symm⟩
          · rw [List.getElem?_map, List.getElem?_eq_none (by simpa using hl2)] at hi
            cases hi
        have hlen : ((List.range len).map fun i => (f i).2).length = len := by simp
        refine ⟨_, hS ((List.range len).map fun i => (f i).2) (by rw [hlen]; omega) (fun r hr => ?_), .one ?_⟩
        · obtain ⟨i, hi, rfl⟩ := List.mem_map.1 hr
          exact (hf i (by simpa using hi)).2.1
        · have key := RepD.lst (A := fun _ => False) (w := w) (sizeT tab e) ((List.range len).map fun i => (f i).2) b o cap (fun i j => (f i).1.getD j undef) (by rw [hlen]; exact hl) hb (fun h => h) (fun r hr => ?_) (fun i r j d hi hj => ?_) (fun i r j d hi hj => ?_)
          · rw [hlen] at key; exact key
          · obtain ⟨i, hi, rfl⟩ := List.mem_map.1 hr
            have hi := List.mem_range.1 hi
            rw [(hf i hi).2.2.1, (hcell i hi).1]
          · obtain ⟨hlt, rfl⟩ := hrow i r hi
            have hjl : j < (f i).1.length := by rw [← (hf i hlt).2.2.1]; exact (List.getElem?_eq_some_iff.1 hj).1
            have := (hcell i hlt).2 j (by rw [← (hcell i hlt).1]; exact hjl)
            rw [hadd] at this
            rw [this, List.getD_eq_getElem?_getD, List.getElem?_eq_getElem hjl]
            rfl
          · obtain ⟨hlt, rfl⟩ := hrow i r hi
            have hjl : j < (f i).1.length := by rw [← (hf i hlt).2.2.1]; exact (List.getElem?_eq_some_iff.1 hj).1
            refine (hf i hlt).2.2.2 j d _ hj ?_
            rw [List.getD_eq_getElem?_getD, List.getElem?_eq_getElem hjl]
            rfl
    case struct fs =>
      cases hf with
      | struct fa _ hfl =>
      rw [Bool.and_eq_true, Bool.and_eq_true] at hok
      obtain ⟨_, htile, hall⟩ := hok
      obtain ⟨xs, n', _, _, hcl, hxl, hf⟩ := DataW.trod_struct hu h
      have hsz : P.cellsOf t = sz := cells_size ht hτ
      have key : ∀ (l : List Field) (off : Nat), (∀ f ∈ l, ∃ y, DataW.trod enc P w 0 (fun _ => true) true n' f.type ((cs.drop f.offset).take (P.cellsOf f.type)) = some y) → tiles tab (l.map fun f => (f.offset, f.type)) off sz = true → ((l.map fun f => (f.offset, f.type)).all fun p => okSh tab m p.2) = true →
          ∃ row, ShapeL (ShapeD tab m) (l.map fun f => (f.offset, f.type)) row ∧ RepRow w row (cs.drop off) := by
        intro l
        induction l with
        | nil =>
          intro off _ h2 _
          have : off = sz := by simpa [tiles] using h2
          refine ⟨[], rfl, ?_⟩
          rw [List.drop_eq_nil_of_le (by omega)]
          exact ⟨rfl, by simp⟩
        | cons f l ihl =>
          intro off h1 h2 h3
          simp only [List.map_cons, tiles, Bool.and_eq_true, beq_iff_eq] at h2
          simp only [List.map_cons, List.all_cons, Bool.and_eq_true] at h3
          obtain ⟨y, hy⟩ := h1 f (by simp)
          obtain ⟨r1, s1, s2⟩ := ih f.type n' _ y h3.1 hy
          obtain ⟨r2, s3, s4⟩ := ihl (off + sizeT tab f.type) (fun g hg => h1 g (by simp [hg])) h2.2 h3.2
          refine ⟨r1 ++ r2, ⟨r1, r2, rfl, s1, s3⟩, ?_⟩
          have := s2.append s4
          rw [h2.1, okSh_size ht h3.1, ← List.drop_drop, List.take_append_drop] at this
          exact this
      obtain ⟨row, s1, s2⟩ := key fa.toList 0 (fun f hf' => by
        obtain ⟨i, hi, e⟩ := List.getElem_of_mem hf'
        have hfi : fa[i]? = some f := by rw [← e]; simp at hi ⊢
        rw [hf i f hfi]
        have hi' : i < xs.length := by rw [hxl]; simpa using hi
        exact ⟨xs[i], by simp [hi']⟩) (by rw [hfl]; exact htile) (by rw [hfl]; exact hall)
      refine ⟨row, ?_, by simpa using s2⟩
      unfold ShapeD; rw [hτ]
      rw [hfl] at s1
      exact s1
end
end Go.Proofs.Ytmihhkcbbdpnaaa.Abs
