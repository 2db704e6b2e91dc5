/- The abstract machine, part 24: arguments that are not just as the contract has them: lent to be read, reckoned. -/
import Derived.Test.YtmihhkcbbdpnaaaC8
namespace Go.Proofs.Ytmihhkcbbdpnaaa.Abs
set_option linter.unusedVariables false
set_option linter.unusedSimpArgs false

def noNames (x : V) : Bool :=
  match nameOf x with
  | [] => true
  | _ => false
def lendDat (h : List (Nat × B)) (n sz : Nat) (K : List (List D) → Prop) : Prop :=
  match hAt h n with
  | some (.dat s r) => okK (Nat.beq s sz) (K r)
  | _ => False
def lendSame (a x : V) (K : Prop) : Prop := okK (noNames a) (CB (x = a) K)
def lendLst (h : List (Nat × B)) (sz : Nat) (rows : List (List D)) (x : V) (K : Prop) : Prop :=
  match x with
  | .lst sz' rows' _ => okK (Nat.beq sz' sz) (CB (rows' = rows) K)
  | .c (.slice none 0 0) => CB (rows = []) K
  | .ac n sz' len => okK (Nat.beq sz' sz) (lendDat h n sz fun r => CB (len = r.length ∧ r = rows) K)
  | .sl n sz' off len => okK (Nat.beq sz' sz) (lendDat h n sz fun r => CB (off + len ≤ r.length ∧ rows = (r.drop off).take len) K)
  | _ => False
/-- the value x, lent as a -/
def lend0 (h : List (Nat × B)) (a x : V) (K : Prop) : Prop :=
  match a with
  | .lst sz rows cl => match cl with
    | false => lendLst h sz rows x K
    | true => lendSame (.lst sz rows true) x K
  | .q row j => match x with
    | .p n sz i j' => okK (Nat.beq j' j) (match hAt h n with
      | some (.dat s r) => okK (Nat.beq s sz) (CB (r[i]? = some row) K)
      | some (.rows s r) => okK (Nat.beq s sz) (okK (row.all D.leaf) (CB (r[i]? = some (row.map D.toV)) K))
      | _ => False)
    | x => lendSame (.q row j) x K
  | a => lendSame a x K
abbrev LendT := List V → Prop → Prop
def lendNil : LendT := fun xs K => match xs with
  | [] => K
  | _ => False
def lendCons (g : V → V → Prop → Prop) (a : V) (l : List V) (ih : LendT) : LendT := fun xs K => match xs with
  | x :: xs => g a x (ih xs K)
  | [] => False
noncomputable def lendT0 (h : List (Nat × B)) (l : List V) : LendT := List.rec (motive := fun _ => LendT) lendNil (lendCons (lend0 h)) l
noncomputable def lend1 (h : List (Nat × B)) (a x : V) (K : Prop) : Prop :=
  match a with
  | .agg l => match x with
    | .agg xs => lendT0 h l xs K
    | _ => False
  | .fn f a b => match x with
    | .fn f' a' b' => CB (f' = f) (lendT0 h a a' (lendT0 h b b' K))
    | _ => False
  | a => lend0 h a x K
noncomputable def lendT (h : List (Nat × B)) (l : List V) : LendT := List.rec (motive := fun _ => LendT) lendNil (lendCons (lend1 h)) l

theorem noNames_of {x : V} (h : noNames x = true) : x.Below fun _ => False := by
  unfold noNames at h
  split at h
  · next e => exact names_below e _
  · cases h
theorem lendSame_of {h : List (Nat × B)} {a x : V} {K : Prop} (hk : lendSame a x K) : K ∧ Lend (hAt h) a x := by
  obtain ⟨e1, hk1⟩ := okK_of hk
  obtain ⟨e2, hk2⟩ := hk1
  subst e2
  exact ⟨hk2, .same _ (noNames_of e1)⟩
theorem lendDat_of {h : List (Nat × B)} {n sz : Nat} {K : List (List D) → Prop} (hk : lendDat h n sz K) : ∃ r, hAt h n = some (.dat sz r) ∧ K r := by
  unfold lendDat at hk
  split at hk
  case h_2 => cases hk
  next s r hr =>
  obtain ⟨e, hk1⟩ := okK_of hk
  cases Nat.eq_of_beq_eq_true e
  exact ⟨r, hr, hk1⟩
theorem lendLst_of {h : List (Nat × B)} {sz : Nat} {rows : List (List D)} {x : V} {K : Prop} (hk : lendLst h sz rows x K) : K ∧ Lend (hAt h) (.lst sz rows false) x := by
  unfold lendLst at hk
  split at hk
  · obtain ⟨e1, hk⟩ := okK_of hk
    obtain ⟨e2, hk1⟩ := hk
    cases Nat.eq_of_beq_eq_true e1
    cases e2
    exact ⟨hk1, .clip _ _ _⟩
  · obtain ⟨e2, hk1⟩ := hk
    subst e2
    exact ⟨hk1, .nil _⟩
  · obtain ⟨e1, hk⟩ := okK_of hk
    obtain ⟨r, hr, ⟨e2, e3⟩, hk1⟩ := lendDat_of hk
    cases Nat.eq_of_beq_eq_true e1
    subst e3
    exact ⟨hk1, .ac _ _ _ _ hr e2⟩
  · obtain ⟨e1, hk⟩ := okK_of hk
    obtain ⟨r, hr, ⟨e2, e3⟩, hk1⟩ := lendDat_of hk
    cases Nat.eq_of_beq_eq_true e1
    exact ⟨hk1, .sd _ _ _ _ r _ hr e2 e3⟩
  · cases hk
theorem lend0_of {h : List (Nat × B)} {a x : V} {K : Prop} (hk : lend0 h a x K) : K ∧ Lend (hAt h) a x := by
  unfold lend0 at hk
  split at hk
  · next sz rows cl =>
    cases cl with
    | false => exact lendLst_of hk
    | true => exact lendSame_of hk
  · split at hk
    · obtain ⟨e1, hj⟩ := okK_of hk
      clear hk
      cases Nat.eq_of_beq_eq_true e1
      split at hj
      · next s r hr =>
        obtain ⟨e2, hk2⟩ := okK_of hj
        obtain ⟨e3, hk1⟩ := hk2
        cases Nat.eq_of_beq_eq_true e2
        exact ⟨hk1, .pd _ _ _ _ r _ hr e3⟩
      · next s r hr =>
        obtain ⟨e2, hk2⟩ := okK_of hj
        obtain ⟨e4, hk3⟩ := okK_of hk2
        obtain ⟨e3, hk1⟩ := hk3
        cases Nat.eq_of_beq_eq_true e2
        exact ⟨hk1, .p _ _ _ _ r _ hr e3 e4⟩
      · cases hj
    · exact lendSame_of hk
  · exact lendSame_of hk
theorem lendT_gen {h : List (Nat × B)} {g : V → V → Prop → Prop} (hg : ∀ {a x : V} {K : Prop}, g a x K → K ∧ Lend (hAt h) a x) : ∀ {l xs : List V} {K : Prop}, (List.rec (motive := fun _ => LendT) lendNil (lendCons g) l : LendT) xs K → K ∧ LendL (hAt h) l xs
  | [], [], K, hk => ⟨hk, trivial⟩
  | a :: l, x :: xs, K, hk => by
    obtain ⟨hk, h1⟩ := hg (K := (List.rec (motive := fun _ => LendT) lendNil (lendCons g) l : LendT) xs K) hk
    obtain ⟨h2, h3⟩ := lendT_gen hg hk
    exact ⟨h2, h1, h3⟩
  | [], _ :: _, K, hk => by cases hk
  | _ :: _, [], K, hk => by cases hk
theorem lend1_of {h : List (Nat × B)} {a x : V} {K : Prop} (hk : lend1 h a x K) : K ∧ Lend (hAt h) a x := by
  unfold lend1 at hk
  split at hk
  · split at hk
    · obtain ⟨h1, h2⟩ := lendT_gen lend0_of hk
      exact ⟨h1, .agg _ _ h2.length fun i x y hx hy => h2.at i x y hx hy⟩
    · cases hk
  · split at hk
    · obtain ⟨e, hk⟩ := hk
      subst e
      obtain ⟨hk, h2⟩ := lendT_gen lend0_of (K := lendT0 h _ _ K) hk
      obtain ⟨h1, h3⟩ := lendT_gen lend0_of hk
      exact ⟨h1, .fn _ _ _ _ _ h2.length h3.length (fun i x y hx hy => h2.at i x y hx hy) fun i x y hx hy => h3.at i x y hx hy⟩
    · cases hk
  · exact lend0_of hk
theorem lendT_of {h : List (Nat × B)} {l xs : List V} {K : Prop} (hk : lendT h l xs K) : K ∧ LendL (hAt h) l xs := lendT_gen lend1_of hk

section
variable {P : Program} {tab : Tab}
theorem PSpec.as {f : FuncId} {args xs : List V} {r : V} (hs : PSpec P f args r) (hl : LendL (hAt []) args xs) (hb : ∀ x ∈ xs, x.Below fun _ => False) : PSpec P f xs r := by
  obtain ⟨h1, h2, h3⟩ := hs
  refine ⟨hb, h2, fun F ids w vals hF hsz hv => h3 F ids w vals hF (by rw [hsz, hl.length]) fun i d v hd hvi => ?_⟩
  have hh : RepH F ids w (hAt []) (Lt 0) := ⟨by simp [hAt], by simp [hAt], by simp [hAt], by simp [hAt], by simp [hAt], hF⟩
  have hi : i < xs.length := by rw [← hl.length]; exact (List.getElem?_eq_some_iff.1 hd).1
  have hr := hv i xs[i] v (by simp [hi]) hvi
  refine (hl.at i d xs[i] hd (by simp [hi])).sound hh (hr.sub fun b x => ?_)
  rcases x with x | ⟨n, y, hn, _⟩
  · exact x
  · cases hn
def noNamesL (xs : List V) : Bool :=
  match namesOf xs with
  | [] => true
  | _ => false
theorem noNamesL_of {xs : List V} (h : noNamesL xs = true) : ∀ x ∈ xs, x.Below fun _ => False := by
  unfold noNamesL at h
  split at h
  · next e => exact names_below.names_below' e _
  · cases h
theorem PSpecN.as {f : FuncId} {args xs : List V} {r : V} (hs : PSpecN P f args r) (hl : LendL (hAt []) args xs) (hb : ∀ x ∈ xs, x.Below fun _ => False) : PSpecN P f xs r := by
  obtain ⟨h1, h2, h3⟩ := hs
  refine ⟨hb, h2, fun F ids w vals hF hsz hv => h3 F ids w vals hF (by rw [hsz, hl.length]) fun i d v hd hvi => ?_⟩
  have hh : RepH F ids w (hAt []) (Lt 0) := ⟨by simp [hAt], by simp [hAt], by simp [hAt], by simp [hAt], by simp [hAt], hF⟩
  have hi : i < xs.length := by rw [← hl.length]; exact (List.getElem?_eq_some_iff.1 hd).1
  have hr := hv i xs[i] v (by simp [hi]) hvi
  refine (hl.at i d xs[i] hd (by simp [hi])).sound hh (hr.sub fun b x => ?_)
  rcases x with x | ⟨n, y, hn, _⟩
  · exact x
  · cases hn
/-- a call: the arguments as the contract has them, but for clips and nil -/
theorem callC {f : FuncId} {args xs : List V} {h : List (Nat × B)} {b : Nat} {K : V → List (Nat × B) → Prop} {r : V} (hs : PSpec P f args r) (k : okK (noNamesL xs) (lendT [] args xs (K r h))) : CallB P f xs h b K := by
  obtain ⟨e, k⟩ := okK_of k
  obtain ⟨k, hl⟩ := lendT_of k
  exact callB (hs.as hl (noNamesL_of e)) k
theorem dcallC {f : FuncId} {args xs : List V} {h : List (Nat × B)} {b : Nat} {K : V → List (Nat × B) → Dyn → Prop} {r : V} (hs : PSpec P f args r) (k : okK (noNamesL xs) (lendT [] args xs (K r h ⟨[], [], [], false⟩))) : DCallB P f xs h b K := by
  obtain ⟨e, k⟩ := okK_of k
  obtain ⟨k, hl⟩ := lendT_of k
  have hn : namesOf xs = [] := by
    unfold noNamesL at e
    split at e
    · assumption
    · cases e
  exact dcallB (hs.as hl (noNamesL_of e)) (by rw [hn]; exact k)
/-- a call that lends blocks to be read; what it gives is new -/
theorem callN {f : FuncId} {args xs : List V} {h : List (Nat × B)} {b : Nat} {K : V → List (Nat × B) → Prop} {r : V} (hs : PSpecN P f args r) (k : lendT h args xs (K r h)) : CallB P f xs h b K := by
  obtain ⟨k, hl⟩ := lendT_of k
  exact callB_lend _ hs hl k
theorem dcallN {f : FuncId} {args xs : List V} {h : List (Nat × B)} {b : Nat} {K : V → List (Nat × B) → Dyn → Prop} {r : V} (hs : PSpecN P f args r) (k : lendT h args xs (listK (namesOf xs) fun ns => K r h ⟨ns, [], [], false⟩)) : DCallB P f xs h b K := by
  obtain ⟨k, hl⟩ := lendT_of k
  exact dcallB_lend _ hs hl (listK_of (K := fun ns => K r h ⟨ns, [], [], false⟩) k)
end
end Go.Proofs.Ytmihhkcbbdpnaaa.Abs
