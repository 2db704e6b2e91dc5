/- From what a row's arguments read to the data of the model. -/
import Derived.Test.YtmihhkcbbdpnaaaF15
import Derived.Test.YtmihhkcbbdpnaaaL3
namespace Go.Proofs.Ytmihhkcbbdpnaaa.Abs
open Go.Proofs
set_option maxRecDepth 10000
set_option linter.unusedSimpArgs false
set_option linter.unusedVariables false
theorem intOf {m : Nat} {row : List D} (h : ShapeD tab (m + 1) 3 row) : ∃ x : Int, row = [.c (.int .i64 x)] ∧ -9223372036854775808 ≤ x ∧ x ≤ 9223372036854775807 := by
  obtain ⟨x, rfl, hw⟩ : ∃ x : Int, row = [.c (.int .i64 x)] ∧ (Lit.int .i64 x).wf = true := h
  exact ⟨x, rfl, by simpa [Lit.wf, IntKind.min, IntKind.max, IntKind.signed, IntKind.bits] using hw⟩
theorem u8Of {m : Nat} {row : List D} (h : ShapeD tab (m + 1) 5 row) : ∃ x : Int, row = [.c (.int .u8 x)] ∧ 0 ≤ x ∧ x ≤ 255 := by
  obtain ⟨x, rfl, hw⟩ : ∃ x : Int, row = [.c (.int .u8 x)] ∧ (Lit.int .u8 x).wf = true := h
  exact ⟨x, rfl, by simpa [Lit.wf, IntKind.min, IntKind.max, IntKind.signed, IntKind.bits] using hw⟩
theorem u32Of {m : Nat} {row : List D} (h : ShapeD tab (m + 1) 55 row) : ∃ x : Int, row = [.c (.int .u32 x)] ∧ 0 ≤ x ∧ x ≤ 4294967295 := by
  obtain ⟨x, rfl, hw⟩ : ∃ x : Int, row = [.c (.int .u32 x)] ∧ (Lit.int .u32 x).wf = true := h
  exact ⟨x, rfl, by simpa [Lit.wf, IntKind.min, IntKind.max, IntKind.signed, IntKind.bits] using hw⟩
/-- a list of rows, each the row of something -/
theorem rowsOf' {α : Type} {f : α → List D} {p : List D → Prop} (hp : ∀ r, p r → ∃ x, r = f x) : ∀ (rows : List (List D)), (∀ r ∈ rows, p r) → ∃ l : List α, rows = l.map f
  | [], _ => ⟨[], rfl⟩
  | r :: rows, h => by
    obtain ⟨l, rfl⟩ := rowsOf' hp rows fun r hr => h r (by simp [hr])
    obtain ⟨x, rfl⟩ := hp r (h r (by simp))
    exact ⟨x :: l, rfl⟩
theorem lstOf {α : Type} {f : α → List D} {m sz : Nat} {t e : TypeId} (hk : (tab t).map Ty.kind = some (.slice e)) (hsz : sizeT tab e = sz) {row : List D} (hp : ∀ r, ShapeD tab m e r → ∃ x, r = f x) (h : ShapeD tab (m + 1) t row) : ∃ l : List α, row = [.lst sz (l.map f)] := by
  unfold ShapeD at h
  rw [hk] at h
  obtain ⟨rows, rfl, _, hr⟩ := h
  obtain ⟨l, rfl⟩ := rowsOf' hp rows hr
  rw [hsz]
  exact ⟨l, rfl⟩
theorem calOf {m : Nat} {row : List D} (h : ShapeD tab (m + 2) 28 row) : ∃ x : Cal, row = [.c (.int .i64 x.kind), .c (.int .i64 x.time), .c (.int .i64 x.handle), .c (.int .i64 x.max), .c (.int .i64 x.bound)] := by
  have h : ShapeL (ShapeD tab (m + 1)) [(0, 3), (1, 3), (2, 3), (3, 3), (4, 3)] row := h
  obtain ⟨_, _, rfl, ⟨a, rfl, _⟩, _, _, rfl, ⟨b, rfl, _⟩, _, _, rfl, ⟨c, rfl, _⟩, _, _, rfl, ⟨d, rfl, _⟩, _, _, rfl, ⟨e, rfl, _⟩, rfl⟩ := h
  exact ⟨⟨a, b, c, d, e⟩, rfl⟩
theorem stpOf {m : Nat} {row : List D} (h : ShapeD tab (m + 3) 30 row) : ∃ x : Stp, row = x.row := by
  have h : ShapeL (ShapeD tab (m + 2)) [(0, 28), (5, 3)] row := h
  obtain ⟨_, _, rfl, h1, _, _, rfl, ⟨a, rfl, _⟩, rfl⟩ := h
  obtain ⟨c, rfl⟩ := calOf h1
  exact ⟨⟨c, a⟩, rfl⟩
theorem stpsOf {m : Nat} {row : List D} (h : ShapeD tab (m + 4) 26 row) : ∃ l : List Stp, row = [.lst 6 (l.map Stp.row)] := lstOf rfl rfl (fun r hr => stpOf hr) h
theorem entOf {m : Nat} {row : List D} (h : ShapeD tab (m + 2) 49 row) : ∃ x : Ent, row = x.row := by
  have h : ShapeL (ShapeD tab (m + 1)) [(0, 3), (1, 3), (2, 3), (3, 4)] row := h
  obtain ⟨_, _, rfl, ⟨a, rfl, _⟩, _, _, rfl, ⟨b, rfl, _⟩, _, _, rfl, ⟨c, rfl, _⟩, _, _, rfl, ⟨d, rfl⟩, rfl⟩ := h
  exact ⟨⟨a, b, c, d⟩, rfl⟩
theorem evtOf {m : Nat} {row : List D} (h : ShapeD tab (m + 2) 51 row) : ∃ x : Evt, row = x.row := by
  have h : ShapeL (ShapeD tab (m + 1)) [(0, 3), (1, 3)] row := h
  obtain ⟨_, _, rfl, ⟨a, rfl, _⟩, _, _, rfl, ⟨b, rfl, _⟩, rfl⟩ := h
  exact ⟨⟨a, b⟩, rfl⟩
theorem intsOf {m : Nat} {row : List D} (h : ShapeD tab (m + 2) 23 row) : ∃ l : List Int, row = [.lst 1 (l.map intD)] := lstOf rfl rfl (fun r hr => by obtain ⟨x, rfl, _⟩ := intOf hr; exact ⟨x, rfl⟩) h
theorem entsOf {m : Nat} {row : List D} (h : ShapeD tab (m + 3) 22 row) : ∃ l : List Ent, row = [.lst 4 (l.map Ent.row)] := lstOf rfl rfl (fun r hr => entOf hr) h
theorem evtsOf {m : Nat} {row : List D} (h : ShapeD tab (m + 3) 32 row) : ∃ l : List Evt, row = [.lst 2 (l.map Evt.row)] := lstOf rfl rfl (fun r hr => evtOf hr) h
def Mod.row (m : Mod) : List D := [.c (.int .i64 m.cap), .lst 4 (m.ents.map Ent.row), .c (.int .i64 m.next), .lst 1 (m.iss.map intD)]
def Res.row (m : Res) : List D := [.c (.int .i64 m.err), .c (.int .i64 m.handle), .c (.bool m.canc), .lst 2 (m.evs.map Evt.row)]
theorem modOf {m : Nat} {row : List D} (h : ShapeD tab (m + 4) 25 row) : ∃ x : Mod, row = x.row := by
  have h : ShapeL (ShapeD tab (m + 3)) [(0, 3), (1, 22), (2, 3), (3, 23)] row := h
  obtain ⟨_, _, rfl, ⟨a, rfl, _⟩, _, _, rfl, h2, _, _, rfl, ⟨c, rfl, _⟩, _, _, rfl, h4, rfl⟩ := h
  obtain ⟨l, rfl⟩ := entsOf h2
  obtain ⟨s, rfl⟩ := intsOf h4
  exact ⟨⟨a, l, c, s⟩, rfl⟩
theorem resOf {m : Nat} {row : List D} (h : ShapeD tab (m + 4) 34 row) : ∃ x : Res, row = x.row := by
  have h : ShapeL (ShapeD tab (m + 3)) [(0, 31), (1, 3), (2, 4), (3, 32)] row := h
  obtain ⟨_, _, rfl, ⟨a, rfl, _⟩, _, _, rfl, ⟨b, rfl, _⟩, _, _, rfl, ⟨c, rfl⟩, _, _, rfl, h4, rfl⟩ := h
  obtain ⟨l, rfl⟩ := evtsOf h4
  exact ⟨⟨a, b, c, l⟩, rfl⟩
theorem specInvariant (rows : List (List D)) (h : AllR (ShapeD tab 6) [5, 26, 30] rows) : PSpec Try.prog 4 (List.zipWith (argV tab) [5, 26, 30] rows) (V.bool true) := by
  obtain ⟨_, _, rfl, h1, h⟩ := h.cons
  obtain ⟨_, _, rfl, h2, h⟩ := h.cons
  obtain ⟨_, _, rfl, h3, h⟩ := h.cons
  cases h.nil
  obtain ⟨k, rfl, hk⟩ := u8Of h1
  obtain ⟨l, rfl⟩ := stpsOf h2
  obtain ⟨s, rfl⟩ := stpOf h3
  exact pqInvariant k l s hk
theorem specMatches (rows : List (List D)) (h : AllR (ShapeD tab 6) [25, 5, 26, 30, 34, 3] rows) : PSpec Try.prog 3 (List.zipWith (argV tab) [25, 5, 26, 30, 34, 3] rows) (V.bool true) := by
  obtain ⟨_, _, rfl, h0, h⟩ := h.cons
  obtain ⟨_, _, rfl, h1, h⟩ := h.cons
  obtain ⟨_, _, rfl, h2, h⟩ := h.cons
  obtain ⟨_, _, rfl, h3, h⟩ := h.cons
  obtain ⟨_, _, rfl, h4, h⟩ := h.cons
  obtain ⟨_, _, rfl, h5, h⟩ := h.cons
  cases h.nil
  obtain ⟨raw, rfl⟩ := modOf h0
  obtain ⟨k, rfl, hk⟩ := u8Of h1
  obtain ⟨l, rfl⟩ := stpsOf h2
  obtain ⟨s, rfl⟩ := stpOf h3
  obtain ⟨r, rfl⟩ := resOf h4
  obtain ⟨z, rfl, _⟩ := intOf h5
  exact pqMatches raw k l s r z hk
end Go.Proofs.Ytmihhkcbbdpnaaa.Abs
