/- The abstract machine, part 17: regions whose order is open: every order that the edges allow comes to the same state. -/
import Derived.Test.YtmihhkcbbdpnaaaB3
namespace Go.Proofs.Ytmihhkcbbdpnaaa.Abs
set_option linter.unusedVariables false
set_option linter.unusedSimpArgs false
section
variable {P : Program} {tab : Tab} {M0 : Nm}

/-- the names that an operation reads, that it writes, that are new; whether it may not be looked at so -/
structure Dyn where
  hr : List Nat
  hw : List Nat
  nw : List Nat
  x : Bool

mutual
def nameOf : V → List Nat
  | .p n _ _ _ => [n]
  | .sl n _ _ _ => [n]
  | .ac n _ _ => [n]
  | .sx n _ _ _ _ => [n]
  | .mp n => [n]
  | .agg xs => namesOf xs
  | .tup xs => namesOf xs
  | .fn _ xs ys => namesOf xs ++ namesOf ys
  | .ifc _ x => nameOf x
  | .un => []
  | .c _ => []
  | .lst _ _ _ => []
  | .q _ _ => []
def namesOf : List V → List Nat
  | [] => []
  | x :: xs => nameOf x ++ namesOf xs
end
theorem mem_namesOf {n : Nat} : ∀ {xs : List V}, n ∈ namesOf xs ↔ ∃ x ∈ xs, n ∈ nameOf x
  | [] => by simp [namesOf]
  | x :: xs => by simp [namesOf, mem_namesOf]
def ownOf : V → List Nat
  | .sl n _ _ _ => [n]
  | .ac n _ _ => [n]
  | _ => []

def makes : Op → Bool
  | .alloc _ | .box _ _ | .buildSlice _ _ _ => true
  | .call ⟨.builtin .append, _, _⟩ => true
  | _ => false
def dynOf (nm : Nat) (e : Operand → V) : Op → Dyn
  | .load _ a => ⟨nameOf (e a), [], [], false⟩
  | .store _ a _ => ⟨[], nameOf (e a), [], false⟩
  | .alloc _ | .box _ _ | .buildSlice _ _ _ => ⟨[], [], [nm], false⟩
  | .call ⟨.builtin .append, args, _⟩ => match args.toList with
    | [s, x] => ⟨nameOf (e x), ownOf (e s), [nm], false⟩
    | _ => ⟨[], [], [], true⟩
  | .call ⟨.builtin .len, args, _⟩ => match args.toList with
    | [s] => ⟨nameOf (e s), [], [], false⟩
    | _ => ⟨[], [], [], true⟩
  | .call ⟨.builtin _, _, _⟩ => ⟨[], [], [], false⟩
  | _ => ⟨[], [], [], false⟩

/-- changes of a heap -/
def appU (h : Hp) : List (Nat × Option B) → Hp
  | [] => h
  | p :: u => appU (upd h p.1 p.2) u
def namesU (u : List (Nat × Option B)) : List Nat := u.map Prod.fst
theorem appU_other : ∀ {u : List (Nat × Option B)} {h : Hp} {n : Nat}, ¬ n ∈ namesU u → appU h u n = h n
  | [], _, _, _ => rfl
  | p :: u, h, n, hn => by
    simp only [namesU, List.map_cons, List.mem_cons, not_or] at hn
    rw [appU, appU_other (u := u) hn.2, upd_ne _ _ _ _ hn.1]
theorem appU_congr : ∀ {u : List (Nat × Option B)} {h h2 : Hp} {n : Nat}, (¬ n ∈ namesU u → h2 n = h n) → appU h2 u n = appU h u n
  | [], _, _, _, e => e (by simp [namesU])
  | p :: u, h, h2, n, e => by
    simp only [appU]
    refine appU_congr fun hn => ?_
    by_cases hp : n = p.1
    · rw [hp, upd_same, upd_same]
    · rw [upd_ne _ _ _ _ hp, upd_ne _ _ _ _ hp]
      exact e (by simp only [namesU, List.map_cons, List.mem_cons, not_or]; exact ⟨hp, hn⟩)
theorem appU_comm {h : Hp} {u v : List (Nat × Option B)} (hd : ∀ n, n ∈ namesU u → n ∈ namesU v → False) : appU (appU h u) v = appU (appU h v) u := by
  funext n
  by_cases hu : n ∈ namesU u
  · have hv : ¬ n ∈ namesU v := fun hv => hd n hu hv
    rw [appU_other hv]
    exact (appU_congr fun hn => absurd hu hn).symm
  · rw [appU_other hu]
    exact appU_congr fun _ => appU_other hu

/-- a call that reads the names of d.hr, writes those of d.hw, and makes those of d.nw: what it gives, and what becomes of the heap -/
structure LCall (P : Program) (f : FuncId) (xs : List V) (d : Dyn) (nm : Nat) (u : List (Nat × Option B)) (v : V) (h : Hp) : Prop where
  names : ∀ n ∈ namesU u, n ∈ d.hw ∨ n ∈ d.nw
  news : ∀ n ∈ d.nw, nm ≤ n ∧ n < nm + 64
  run : ∀ h2 : Hp, (∀ n, n ∈ d.hr ∨ n ∈ d.hw → h2 n = h n) → ∀ M : Nm, (∀ k, nm ≤ k → k < nm + 64 → ¬ M k) → (∀ x ∈ xs, x.Below M) → ACall P f xs h2 M nm fun r h' => r = v ∧ h' = appU h2 u

/-- an operation, shown apart, alike -/
structure LOp (P : Program) (op : Op) (e : Operand → V) (d : Dyn) (nm : Nat) (u : List (Nat × Option B)) (v : V) (h : Hp) : Prop where
  names : ∀ n ∈ namesU u, n ∈ d.hw ∨ n ∈ d.nw
  news : ∀ n ∈ d.nw, nm ≤ n ∧ n < nm + 64
  run : ∀ h2 : Hp, (∀ n, n ∈ d.hr ∨ n ∈ d.hw → h2 n = h n) → ∀ M : Nm, (∀ k, nm ≤ k → k < nm + 64 → ¬ M k) → (∀ x ∈ op.operands.toList, (e x).Below M) → AOp P op e h2 M nm fun r h' => r = v ∧ h' = appU h2 u

/-- one operation without draws: what it gives, and the heap behind it -/
def DOp0 (P : Program) (tab : Tab) (nm : Nat) (op : Op) (e : Operand → V) (d : Dyn) (h : Hp) (v : V) (u : List (Nat × Option B)) : Prop :=
  match op with
  | .pick c x y => (∃ z, e c = .c (.bool z) ∧ v = (if z = true then e x else e y)) ∧ u = [] ∧ d = ⟨[], [], [], false⟩
  | .call ⟨.value f, args, _⟩ => ∃ g first cap, e f = .fn (.func g) first cap ∧ d.x = false ∧ LCall P g (first ++ (args.toList.map e ++ cap)) d nm u v h
  | op => d = dynOf nm e op ∧ d.x = false ∧ (∀ n ∈ namesU u, n ∈ d.hw ∨ n ∈ d.nw) ∧ ∀ h2 : Hp, (∀ n, n ∈ d.hr ∨ n ∈ d.hw → h2 n = h n) → sop tab nm e h2 op = some (v, appU h2 u)

def DOp (P : Program) (tab : Tab) (nm : Nat) (op : Op) (e : Operand → V) (d : Dyn) (h : Hp) (v : V) (u : List (Nat × Option B)) : Prop := DOp0 P tab nm op e d h v u ∨ (d.x = false ∧ LOp P op e d nm u v h)

theorem rowsOf_congr {h h2 : Hp} {n : Nat} (e : h2 n = h n) (sz : Nat) : rowsOf h2 n sz = rowsOf h n sz := by simp [rowsOf, e]
theorem datOf_congr {h h2 : Hp} {n : Nat} (e : h2 n = h n) (sz : Nat) : datOf h2 n sz = datOf h n sz := by simp [datOf, e]

theorem Lend_congr {h h2 : Hp} {d x : V} (hl : Lend h d x) : (∀ n ∈ nameOf x, h2 n = h n) → Lend h2 d x := by
  induction hl with
  | same _ hb => exact fun _ => .same _ hb
  | nil sz => exact fun _ => .nil sz
  | clip sz rows cl => exact fun _ => .clip sz rows cl
  | ac n sz len r hn hl => exact fun e => .ac n sz len r (by rw [e n (by simp [nameOf])]; exact hn) hl
  | sd n sz off len r rows hn hl hr => exact fun e => .sd n sz off len r rows (by rw [e n (by simp [nameOf])]; exact hn) hl hr
  | p n sz i j r row hn hr hl => exact fun e => .p n sz i j r row (by rw [e n (by simp [nameOf])]; exact hn) hr hl
  | pd n sz i j r row hn hr => exact fun e => .pd n sz i j r row (by rw [e n (by simp [nameOf])]; exact hn) hr
  | fn f xs xs' ys ys' hl hl' hx hy ih ih' =>
    intro e
    refine .fn _ _ _ _ _ hl hl' (fun i x y h1 h2 => ih i x y h1 h2 fun n hn => e n ?_) (fun i x y h1 h2 => ih' i x y h1 h2 fun n hn => e n ?_)
    · simp only [nameOf, List.mem_append]; exact .inl (mem_namesOf.2 ⟨y, List.mem_of_getElem? h2, hn⟩)
    · simp only [nameOf, List.mem_append]; exact .inr (mem_namesOf.2 ⟨y, List.mem_of_getElem? h2, hn⟩)
  | agg xs xs' hl hx ih =>
    intro e
    refine .agg _ _ hl (fun i x y h1 h2 => ih i x y h1 h2 fun n hn => e n ?_)
    simp only [nameOf]; exact mem_namesOf.2 ⟨y, List.mem_of_getElem? h2, hn⟩
theorem LendL_congr {h h2 : Hp} : ∀ {ds xs : List V}, (∀ n ∈ namesOf xs, h2 n = h n) → LendL h ds xs → LendL h2 ds xs
  | [], [], _, _ => trivial
  | _ :: _, x :: xs, e, hl => ⟨Lend_congr hl.1 (fun n hn => e n (by simp [namesOf, hn])), LendL_congr (fun n hn => e n (by simp [namesOf, hn])) hl.2⟩
  | [], _ :: _, _, hl => hl.elim
  | _ :: _, [], _, hl => hl.elim
theorem PCall_congr {h h2 : Hp} {f : FuncId} {xs : List V} {r : V} (e : ∀ n ∈ namesOf xs, h2 n = h n) (hc : PCall P f xs h r) : PCall P f xs h2 r := by
  rcases hc with hc | ⟨ds, h1, h2⟩
  · exact .inl hc
  · exact .inr ⟨ds, LendL_congr e h1, h2⟩
/-- a call that only looks -/
theorem PCall.lcall {f : FuncId} {xs : List V} {h : Hp} {r : V} (hc : PCall P f xs h r) (nm : Nat) : LCall P f xs ⟨namesOf xs, [], [], false⟩ nm [] r h :=
  ⟨by simp [namesU], by simp, fun h2 he _ _ _ => (PCall_congr (fun n hn => he n (.inl hn)) hc).call ⟨rfl, rfl⟩⟩

theorem rowsFrom_congr {h h2 : Hp} {x : V} (e : ∀ n ∈ nameOf x, h2 n = h n) : rowsFrom h2 x = rowsFrom h x := by
  cases x with
  | sl n sz off len => simp only [rowsFrom]; rw [rowsOf_congr (e n (by simp [nameOf]))]
  | _ => rfl
theorem dRows_congr {h h2 : Hp} {x : V} (sz : Nat) (e : ∀ n ∈ nameOf x, h2 n = h n) : dRows h2 sz x = dRows h sz x := by
  cases x with
  | sl n sz off len => simp only [dRows]; rw [datOf_congr (e n (by simp [nameOf]))]
  | ac n sz len => simp only [dRows]; rw [datOf_congr (e n (by simp [nameOf]))]
  | c v => cases v <;> first | rfl | (next a l c => cases a <;> cases l <;> cases c <;> rfl)
  | _ => rfl
theorem loadV_congr {h h2 : Hp} {t : TypeId} {a : V} (e : ∀ n ∈ nameOf a, h2 n = h n) : loadV tab h2 t a = loadV tab h t a := by
  cases a with
  | p n sz i j => simp only [loadV]; rw [e n (by simp [nameOf])]
  | _ => rfl
theorem lenV_congr {h h2 : Hp} {k : TK} {a : V} (e : ∀ n ∈ nameOf a, h2 n = h n) : lenV h2 k a = lenV h k a := by
  cases a with
  | mp n => unfold lenV; cases k <;> simp [e n (by simp [nameOf])]
  | _ => rfl

theorem storeV_loc {h h' : Hp} {t : TypeId} {a x : V} (hs : storeV tab h t a x = some h') : ∃ n b, nameOf a = [n] ∧ h' = upd h n (some b) ∧ ∀ h2 : Hp, h2 n = h n → storeV tab h2 t a x = some (upd h2 n (some b)) := by
  have hs0 := hs
  unfold storeV at hs
  rw [Option.bind_eq_some_iff] at hs
  obtain ⟨τ, hτ, hs⟩ := hs
  cases a with
  | p n sz i j =>
    dsimp only at hs
    split at hs
    · next sz' r hr =>
      split at hs
      case isFalse => cases hs
      next hsz =>
      simp only [Option.bind_eq_some_iff] at hs
      obtain ⟨row, hi, xs, hxs, hs⟩ := hs
      split at hs
      · next hc =>
        cases hs
        refine ⟨n, _, rfl, rfl, fun h2 e => ?_⟩
        simp only [storeV, hτ, Option.bind_some, e, hr, hsz, if_true, hi, hxs]
        rw [if_pos hc]
      · cases hs
    · next sz' r hr =>
      split at hs
      case isFalse => cases hs
      next hsz =>
      simp only [Option.bind_eq_some_iff] at hs
      obtain ⟨row, hi, xs, hxs, ds, hds, hs⟩ := hs
      split at hs
      · next hc =>
        cases hs
        refine ⟨n, _, rfl, rfl, fun h2 e => ?_⟩
        simp only [storeV, hτ, Option.bind_some, e, hr, hsz, if_true, hi, hxs, hds]
        rw [if_pos hc]
      · cases hs
    · cases hs
  | _ => simp at hs

theorem upd_self {h : Hp} {n : Nat} {b : Option B} (e : h n = b) : upd h n b = h := by funext m; unfold upd; split <;> simp_all

theorem appendV_loc {nm : Nat} {t : TypeId} {s x v : V} {h h' : Hp} (hs : appendV tab nm h t s x = some (v, h')) :
    ∃ u : List (Nat × Option B), h' = appU h u ∧ (∀ n ∈ namesU u, n ∈ ownOf s ∨ n ∈ [nm]) ∧ ∀ h2 : Hp, (∀ n, n ∈ nameOf x ∨ n ∈ ownOf s → h2 n = h n) → appendV tab nm h2 t s x = some (v, appU h2 u) := by
  unfold appendV at hs
  rw [Option.bind_eq_some_iff] at hs
  obtain ⟨ε, hε, hs⟩ := hs
  split at hs
  case isFalse => cases hs
  next hby =>
  split at hs
  · next src hsrc =>
    have hsrc2 : ∀ h2 : Hp, (∀ n, n ∈ nameOf x ∨ n ∈ ownOf s → h2 n = h n) → dRows h2 ε.size x = some src := fun h2 he => by rw [dRows_congr _ fun n hn => he n (.inl hn)]; exact hsrc
    split at hs
    · split at hs
      case isFalse => cases hs
      next hc =>
      simp only [Option.some.injEq, Prod.mk.injEq] at hs
      obtain ⟨rfl, rfl⟩ := hs
      refine ⟨[(nm, _)], rfl, by simp [namesU], fun h2 he => ?_⟩
      unfold appendV; rw [hε, Option.bind_some, if_pos hby, hsrc2 h2 he]; dsimp only; rw [if_pos hc]; rfl
    · split at hs
      case isFalse => cases hs
      next hc =>
      simp only [Option.some.injEq, Prod.mk.injEq] at hs
      obtain ⟨rfl, rfl⟩ := hs
      refine ⟨[(nm, _)], rfl, by simp [namesU], fun h2 he => ?_⟩
      unfold appendV; rw [hε, Option.bind_some, if_pos hby, hsrc2 h2 he]; dsimp only; rw [if_pos hc]; rfl
    · next n sz len =>
      rw [Option.bind_eq_some_iff] at hs
      obtain ⟨r, hr, hs⟩ := hs
      split at hs
      case isFalse => cases hs
      next hc =>
      simp only [Option.some.injEq, Prod.mk.injEq] at hs
      obtain ⟨rfl, rfl⟩ := hs
      refine ⟨[(n, none), (nm, _)], rfl, by simp [namesU, ownOf], fun h2 he => ?_⟩
      unfold appendV; rw [hε, Option.bind_some, if_pos hby, hsrc2 h2 he]; dsimp only
      rw [datOf_congr (he n (.inr (by simp [ownOf]))), hr, Option.bind_some, if_pos hc]; rfl
    · next n sz off len =>
      rw [Option.bind_eq_some_iff] at hs
      obtain ⟨r, hr, hs⟩ := hs
      split at hs
      case isFalse => cases hs
      next hc =>
      simp only [Option.some.injEq, Prod.mk.injEq] at hs
      obtain ⟨rfl, rfl⟩ := hs
      refine ⟨[(n, none), (nm, _)], rfl, by simp [namesU, ownOf], fun h2 he => ?_⟩
      unfold appendV; rw [hε, Option.bind_some, if_pos hby, hsrc2 h2 he]; dsimp only
      rw [datOf_congr (he n (.inr (by simp [ownOf]))), hr, Option.bind_some, if_pos hc]; rfl
    · cases hs
  · next hd =>
    rw [Option.bind_eq_some_iff] at hs
    obtain ⟨src, hsrc, hs⟩ := hs
    split at hs
    case isFalse => cases hs
    next hall =>
    have hd2 : ∀ h2 : Hp, (∀ n, n ∈ nameOf x ∨ n ∈ ownOf s → h2 n = h n) → dRows h2 ε.size x = none := fun h2 he => by rw [dRows_congr _ fun n hn => he n (.inl hn)]; exact hd
    have hsrc2 : ∀ h2 : Hp, (∀ n, n ∈ nameOf x ∨ n ∈ ownOf s → h2 n = h n) → rowsFrom h2 x = some src := fun h2 he => by rw [rowsFrom_congr fun n hn => he n (.inl hn)]; exact hsrc
    split at hs
    · split at hs
      case isFalse => cases hs
      next hc =>
      simp only [Option.some.injEq, Prod.mk.injEq] at hs
      obtain ⟨rfl, rfl⟩ := hs
      refine ⟨[(nm, _)], rfl, by simp [namesU], fun h2 he => ?_⟩
      unfold appendV; rw [hε, Option.bind_some, if_pos hby, hd2 h2 he]; dsimp only; rw [hsrc2 h2 he, Option.bind_some, if_pos hall, if_pos hc]; rfl
    · next n sz off len =>
      rw [Option.bind_eq_some_iff] at hs
      obtain ⟨r, hr, hs⟩ := hs
      split at hs
      case isFalse => cases hs
      next hc =>
      simp only [Option.some.injEq, Prod.mk.injEq] at hs
      obtain ⟨rfl, rfl⟩ := hs
      refine ⟨[(n, none), (nm, _)], rfl, by simp [namesU, ownOf], fun h2 he => ?_⟩
      unfold appendV; rw [hε, Option.bind_some, if_pos hby, hd2 h2 he]; dsimp only; rw [hsrc2 h2 he, Option.bind_some, if_pos hall]
      rw [rowsOf_congr (he n (.inr (by simp [ownOf]))), hr, Option.bind_some, if_pos hc]; rfl
    · cases hs

/-- what an operation does to the heap hangs on the names that it reads alone -/
theorem sop_loc {nm : Nat} {e : Operand → V} {h h' : Hp} {op : Op} {v : V} (hs : sop tab nm e h op = some (v, h')) (hx : (dynOf nm e op).x = false) :
    ∃ u : List (Nat × Option B), h' = appU h u ∧ (∀ n ∈ namesU u, n ∈ (dynOf nm e op).hw ∨ n ∈ (dynOf nm e op).nw) ∧
      ∀ h2 : Hp, (∀ n, n ∈ (dynOf nm e op).hr ∨ n ∈ (dynOf nm e op).hw → h2 n = h n) → sop tab nm e h2 op = some (v, appU h2 u) := by
  have still : ∀ o : Option V, (∀ h2, sop tab nm e h2 op = o.map fun v => (v, h2)) → ∃ u : List (Nat × Option B), h' = appU h u ∧ (∀ n ∈ namesU u, n ∈ (dynOf nm e op).hw ∨ n ∈ (dynOf nm e op).nw) ∧
      ∀ h2 : Hp, (∀ n, n ∈ (dynOf nm e op).hr ∨ n ∈ (dynOf nm e op).hw → h2 n = h n) → sop tab nm e h2 op = some (v, appU h2 u) := by
    intro o ho
    rw [ho, Option.map_eq_some_iff] at hs
    obtain ⟨u, rfl, he⟩ := hs
    simp only [Prod.mk.injEq] at he
    obtain ⟨rfl, rfl⟩ := he
    exact ⟨[], rfl, by simp [namesU], fun h2 _ => by rw [ho]; rfl⟩
  cases op with
  | move x => exact still (some (e x)) fun _ => rfl
  | assign x => exact still (some (e x)) fun _ => rfl
  | alloc t =>
    rw [sop_alloc, Option.map_eq_some_iff] at hs
    obtain ⟨τ, hτ, he⟩ := hs
    simp only [Prod.mk.injEq] at he
    obtain ⟨rfl, rfl⟩ := he
    exact ⟨[(nm, _)], rfl, by simp [namesU, dynOf], fun h2 _ => by rw [sop_alloc, hτ]; rfl⟩
  | box t x =>
    rw [sop_box, Option.map_eq_some_iff] at hs
    obtain ⟨xs, hxs, he⟩ := hs
    simp only [Prod.mk.injEq] at he
    obtain ⟨rfl, rfl⟩ := he
    exact ⟨[(nm, _)], rfl, by simp [namesU, dynOf], fun h2 _ => by rw [sop_box, hxs]; rfl⟩
  | build t ps => exact still _ fun _ => rfl
  | buildSlice t len ps =>
    rw [sop_buildSlice] at hs
    unfold buildSliceV at hs
    rw [Option.bind_eq_some_iff] at hs
    obtain ⟨ε, hε, hs⟩ := hs
    split at hs
    · next hc =>
      rw [Option.bind_eq_some_iff] at hs
      obtain ⟨cs, hcs, he⟩ := hs
      split at he
      · next ds hds =>
        simp only [Option.some.injEq, Prod.mk.injEq] at he
        obtain ⟨rfl, rfl⟩ := he
        refine ⟨[], rfl, by simp [namesU], fun h2 _ => ?_⟩
        rw [sop_buildSlice]; unfold buildSliceV; rw [hε, Option.bind_some, if_pos hc, hcs, Option.bind_some, hds]; rfl
      · next hds =>
        simp only [Option.some.injEq, Prod.mk.injEq] at he
        obtain ⟨rfl, rfl⟩ := he
        refine ⟨[(nm, _)], rfl, by simp [namesU, dynOf], fun h2 _ => ?_⟩
        rw [sop_buildSlice]; unfold buildSliceV; rw [hε, Option.bind_some, if_pos hc, hcs, Option.bind_some, hds]; rfl
    · cases hs
  | load t a =>
    rw [sop_load, Option.map_eq_some_iff] at hs
    obtain ⟨u, hu, he⟩ := hs
    simp only [Prod.mk.injEq] at he
    obtain ⟨rfl, rfl⟩ := he
    exact ⟨[], rfl, by simp [namesU], fun h2 h2e => by rw [sop_load, loadV_congr (fun n hn => h2e n (.inl hn)), hu]; rfl⟩
  | store t a x =>
    rw [sop_store, Option.map_eq_some_iff] at hs
    obtain ⟨h3, hu, he⟩ := hs
    simp only [Prod.mk.injEq] at he
    obtain ⟨rfl, rfl⟩ := he
    obtain ⟨n, b, hn, rfl, hall⟩ := storeV_loc hu
    refine ⟨[(n, some b)], rfl, fun m hm => ?_, fun h2 h2e => ?_⟩
    · simp only [namesU, List.map_cons, List.map_nil, List.mem_singleton] at hm
      left; show m ∈ nameOf (e a); rw [hn, hm]; simp
    · rw [sop_store, hall h2 (h2e n (.inr (by show n ∈ nameOf (e a); rw [hn]; simp)))]; rfl
  | nilCheck x =>
    refine still ((nilCheckV (e x) h).map Prod.fst) fun h2 => ?_
    rw [sop_nilCheck]; unfold nilCheckV; split <;> rfl
  | binOp op t x y t' =>
    refine still ((binOpV tab op t y (e x) (e y) h).map Prod.fst) fun h2 => ?_
    rw [sop_binOp]; unfold binOpV; split <;> simp [Function.comp_def]
  | unOp op t x => exact still _ fun _ => rfl
  | convert s d x =>
    refine still (if (tab s).isSome = true then convV tab d (e x) else none) fun h2 => ?_
    rw [sop_convert]; split <;> rfl
  | makeInterface t x =>
    refine still ((ifaceV tab t (e x) h).map Prod.fst) fun h2 => ?_
    rw [sop_makeInterface]; unfold ifaceV; split <;> rfl
  | makeFunc f a c => exact still (some _) fun _ => rfl
  | slice t x l hi m => exact still _ fun _ => rfl
  | fieldAddr s x f => exact still _ fun _ => rfl
  | field s x f => exact still _ fun _ => rfl
  | indexAddr t x i => exact still _ fun _ => rfl
  | index t x i => exact still _ fun _ => rfl
  | extract x i =>
    refine still ((extractV (e x) i h).map Prod.fst) fun h2 => ?_
    rw [sop_extract]; unfold extractV; split <;> simp [Function.comp_def]
  | call c =>
    obtain ⟨callee, args, tys⟩ := c
    rw [sop_call] at hs
    unfold callV at hs
    dsimp only at hs
    split at hs
    · split at hs
      · next x t hx ht' =>
        have hd : (dynOf nm e (.call ⟨.builtin .len, args, tys⟩)).hr = nameOf (e x) := by simp [dynOf, hx]
        rw [Option.map_eq_some_iff] at hs
        obtain ⟨n, hn, he⟩ := hs
        simp only [Prod.mk.injEq] at he
        obtain ⟨rfl, rfl⟩ := he
        refine ⟨[], rfl, by simp [namesU], fun h2 h2e => ?_⟩
        rw [sop_call]; unfold callV; dsimp only; rw [hx, ht']
        dsimp only
        have : ((tab t).bind fun τ => lenV h2 τ.kind (e x)) = (tab t).bind fun τ => lenV h τ.kind (e x) := by
          congr 1; funext τ; exact lenV_congr fun n hn => h2e n (.inl (by rw [hd]; exact hn))
        rw [this, hn]; rfl
      · cases hs
    · split at hs
      · next s x t t' hxx ht' =>
        have hd : dynOf nm e (.call ⟨.builtin .append, args, tys⟩) = ⟨nameOf (e x), ownOf (e s), [nm], false⟩ := by simp [dynOf, hxx]
        rw [hd]
        split at hs
        case isFalse => cases hs
        next hsl =>
        obtain ⟨u, h1, h2, h3⟩ := appendV_loc hs
        refine ⟨u, h1, h2, fun h4 he => ?_⟩
        rw [sop_call]; unfold callV; dsimp only; rw [hxx, ht']; dsimp only; rw [if_pos hsl, h3 h4 he]
      · cases hs
    · split at hs
      · next x y hxx =>
        rw [Option.map_eq_some_iff] at hs
        obtain ⟨n, hn, he⟩ := hs
        simp only [Prod.mk.injEq] at he
        obtain ⟨rfl, rfl⟩ := he
        refine ⟨[], rfl, by simp [namesU], fun h2 _ => ?_⟩
        rw [sop_call]; unfold callV; dsimp only; rw [hxx]; dsimp only; rw [hn]; rfl
      · cases hs
    · split at hs
      · next x y hxx =>
        rw [Option.map_eq_some_iff] at hs
        obtain ⟨n, hn, he⟩ := hs
        simp only [Prod.mk.injEq] at he
        obtain ⟨rfl, rfl⟩ := he
        refine ⟨[], rfl, by simp [namesU], fun h2 _ => ?_⟩
        rw [sop_call]; unfold callV; dsimp only; rw [hxx]; dsimp only; rw [hn]; rfl
      · cases hs
    · cases hs
  | _ => exact absurd hs (by intro hs; cases hs)
theorem sop_dop {nm : Nat} {e : Operand → V} {h h' : Hp} {op : Op} {v : V} (hs : sop tab nm e h op = some (v, h')) (hx : (dynOf nm e op).x = false) : ∃ u, h' = appU h u ∧ DOp P tab nm op e (dynOf nm e op) h v u := by
  obtain ⟨u, h1, h2, h3⟩ := sop_loc hs hx
  refine ⟨u, h1, .inl ?_⟩
  unfold DOp0
  split
  · cases hs
  · cases hs
  · exact ⟨rfl, hx, h2, h3⟩
end
end Go.Proofs.Ytmihhkcbbdpnaaa.Abs
