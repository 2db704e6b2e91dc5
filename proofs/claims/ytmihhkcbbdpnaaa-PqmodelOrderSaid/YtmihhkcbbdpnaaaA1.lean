/- The abstract machine, part 1: values without addresses, named blocks, and what it means that a world represents them. -/
import Derived.Test.YtmihhkcbbdpnaaaRows
import Derived.WalkKit
namespace Go.Proofs.Ytmihhkcbbdpnaaa.Abs

/-- immutable data: a cell that is a plain value, or a slice of rows of cells -/
inductive D where
  | c (v : Value)
  | lst (sz : Nat) (rows : List (List D))

/-- values: what a slot or a cell holds; a name stands for a block of the heap -/
inductive V where
  | un
  | c (v : Value)
  | lst (sz : Nat) (rows : List (List D)) (clip : Bool)
  | sl (n sz off len : Nat)
  | ac (n sz len : Nat)
  | sx (n sz off len cap : Nat)
  | p (n sz i j : Nat)
  | q (row : List D) (j : Nat)
  | agg (xs : List V)
  | tup (xs : List V)
  | fn (f : Fn) (first cap : List V)
  | ifc (t : TypeId) (x : V)
  | mp (n : Nat)

def D.toV : D → V
  | .c v => .c v
  | .lst sz rows => .lst sz rows false

/-- a named block: rows of cells of one width, or a map with plain keys -/
inductive B where
  | rows (sz : Nat) (r : List (List V))
  | dat (sz : Nat) (r : List (List D))
  | map (es : List (Value × V))

abbrev Hp := Nat → Option B
/-- a block of no rows stands for no block of the world -/
def B.real : B → Bool
  | .dat _ [] => false
  | _ => true
/-- immutable data seen as cells -/
def toVs (r : List (List D)) : List (List V) := r.map fun row => row.map D.toV
def B.see : B → B
  | .dat sz r => .rows sz (toVs r)
  | b => b
def upd {α : Type} (f : Nat → α) (n : Nat) (v : α) : Nat → α := fun m => if m = n then v else f m
theorem upd_same {α : Type} (f : Nat → α) (n : Nat) (v : α) : upd f n v n = v := if_pos rfl
theorem upd_ne {α : Type} (f : Nat → α) (n m : Nat) (v : α) (h : m ≠ n) : upd f n v m = f m := if_neg h

/-! ### names of a set -/
abbrev Nm := Nat → Prop
def Nm.le (m m' : Nm) : Prop := ∀ n, m n → m' n
def Nm.add (m : Nm) (k : Nat) : Nm := fun n => m n ∨ n = k
theorem Nm.le_refl (m : Nm) : m.le m := fun _ h => h
theorem Nm.le_add (m : Nm) (k : Nat) : m.le (m.add k) := fun _ h => .inl h
theorem Nm.le_trans {a b c : Nm} (h : a.le b) (h' : b.le c) : a.le c := fun n x => h' n (h n x)
theorem Nm.ne {m : Nm} {k n : Nat} (h : ¬ m k) (hn : m n) : n ≠ k := fun e => h (e ▸ hn)

structure St where
  t : Nat → V
  h : Hp
  b : Nat
  n : Nat

/-- the names below b -/
def Lt (b : Nat) : Nm := fun k => k < b

inductive V.Below (m : Nm) : V → Prop
  | un : V.Below m .un
  | c (v : Value) : V.Below m (.c v)
  | lst (sz : Nat) (rows : List (List D)) (clip : Bool) : V.Below m (.lst sz rows clip)
  | sl (n sz off len : Nat) (h : m n) : V.Below m (.sl n sz off len)
  | ac (n sz len : Nat) (h : m n) : V.Below m (.ac n sz len)
  | sx (n sz off len cap : Nat) (h : m n) : V.Below m (.sx n sz off len cap)
  | p (n sz i j : Nat) (h : m n) : V.Below m (.p n sz i j)
  | q (row : List D) (j : Nat) : V.Below m (.q row j)
  | agg (xs : List V) (h : ∀ x ∈ xs, V.Below m x) : V.Below m (.agg xs)
  | tup (xs : List V) (h : ∀ x ∈ xs, V.Below m x) : V.Below m (.tup xs)
  | fn (f : Fn) (first cap : List V) (h : ∀ x ∈ first, V.Below m x) (h' : ∀ x ∈ cap, V.Below m x) : V.Below m (.fn f first cap)
  | ifc (t : TypeId) (x : V) (h : V.Below m x) : V.Below m (.ifc t x)
  | mp (n : Nat) (h : m n) : V.Below m (.mp n)

theorem V.Below.mono {m m' : Nm} (hm : m.le m') {x : V} (h : x.Below m) : x.Below m' := by
  induction h with
  | un => exact .un
  | c v => exact .c v
  | lst sz rows clip => exact .lst ..
  | sl n sz off len h => exact .sl _ _ _ _ (hm n h)
  | ac n sz len h => exact .ac _ _ _ (hm n h)
  | sx n sz off len cap h => exact .sx _ _ _ _ _ (hm n h)
  | p n sz i j h => exact .p _ _ _ _ (hm n h)
  | q row j => exact .q ..
  | agg xs h ih => exact .agg _ ih
  | tup xs h ih => exact .tup _ ih
  | fn f a b h h' ih ih' => exact .fn _ _ _ ih ih'
  | ifc t x h ih => exact .ifc _ _ ih
  | mp n h => exact .mp _ (hm n h)

theorem D.toV_below (m : Nm) (d : D) : d.toV.Below m := by cases d <;> constructor

def B.Below (m : Nm) : B → Prop
  | .rows _ r => ∀ row ∈ r, ∀ x ∈ row, x.Below m
  | .dat _ _ => True
  | .map es => ∀ e ∈ es, e.2.Below m
theorem toVs_below (m : Nm) (r : List (List D)) : ∀ row ∈ toVs r, ∀ x ∈ row, x.Below m := by
  intro row hr x hx
  obtain ⟨rd, _, rfl⟩ := List.mem_map.1 hr
  obtain ⟨d, _, rfl⟩ := List.mem_map.1 hx
  exact D.toV_below m d
theorem B.Below.see {m : Nm} {b : B} (h : b.Below m) : b.see.Below m := by
  cases b with
  | dat sz r => exact toVs_below m r
  | _ => exact h

theorem B.Below.mono {m m' : Nm} (hm : m.le m') {b : B} (h : b.Below m) : b.Below m' := by
  cases b with
  | rows sz r => exact fun row hr x hx => (h row hr x hx).mono hm
  | dat sz r => trivial
  | map es => exact fun e he => (h e he).mono hm

/-! ### representation -/
inductive RepD (A : Nat → Prop) (w : World) : D → Value → Prop
  | c (v : Value) (h1 : v.oneCell' = true) : RepD A w (.c v) v
  | emp (sz : Nat) (a : Option Addr) (cap : Nat) : RepD A w (.lst sz []) (.slice a 0 cap)
  | lst (sz : Nat) (rows : List (List D)) (b o cap : Nat) (cell : Nat → Nat → Value) (hcap : rows.length ≤ cap) (hb : b < w.heap.size) (hA : ¬ A b)
      (hw : ∀ row ∈ rows, row.length = sz)
      (hc : ∀ (i : Nat) (row : List D) (j : Nat) (d : D), rows[i]? = some row → row[j]? = some d → w.cell? ⟨b, o + (i * sz + j), none⟩ = some (cell i j))
      (hd : ∀ (i : Nat) (row : List D) (j : Nat) (d : D), rows[i]? = some row → row[j]? = some d → RepD A w d (cell i j)) :
      RepD A w (.lst sz rows) (.slice (some ⟨b, o, none⟩) rows.length cap)

/-- the world has gone on: blocks that nobody may write are as they were, rows of cells keep their length -/
structure Goes (A : Nat → Prop) (w w' : World) : Prop where
  size : w.heap.size ≤ w'.heap.size
  same : ∀ b, b < w.heap.size → ¬ A b → w'.heap[b]? = w.heap[b]?
  shape : ∀ (b : Nat) (arr : Array Value) (T : TypeId) (fz : Nat × Nat), w.heap[b]? = some (.cells arr T fz) → ∃ arr' : Array Value, w'.heap[b]? = some (.cells arr' T fz) ∧ arr'.size = arr.size
  mapx : ∀ (b : Nat) (es : Array MapEntry) (k : Nat), w.heap[b]? = some (.map es k) → ∃ es' k', w'.heap[b]? = some (.map es' k')
  env : w'.os = w.os ∧ w'.output = w.output
  frz : ∀ a, w'.frozen? a = w.frozen? a

theorem Goes.refl (A : Nat → Prop) (w : World) : Goes A w w := ⟨Nat.le_refl _, fun _ _ _ => rfl, fun _ arr _ _ h => ⟨arr, h, rfl⟩, fun _ es k h => ⟨es, k, h⟩, ⟨rfl, rfl⟩, fun _ => rfl⟩
theorem Goes.trans {A A' : Nat → Prop} {w w1 w2 : World} (h : Goes A w w1) (h' : Goes A' w1 w2) (hA : ∀ b, b < w.heap.size → A' b → A b) : Goes A w w2 where
  size := Nat.le_trans h.size h'.size
  same := fun b hb ha => (h'.same b (Nat.lt_of_lt_of_le hb h.size) (fun x => ha (hA b hb x))).trans (h.same b hb ha)
  shape := fun b arr T fz hb => by
    obtain ⟨arr1, h1, s1⟩ := h.shape b arr T fz hb
    obtain ⟨arr2, h2, s2⟩ := h'.shape b arr1 T fz h1
    exact ⟨arr2, h2, s2.trans s1⟩
  mapx := fun b es k hb => by
    obtain ⟨es1, k1, h1⟩ := h.mapx b es k hb
    exact h'.mapx b es1 k1 h1
  env := ⟨h'.env.1.trans h.env.1, h'.env.2.trans h.env.2⟩
  frz := fun a => (h'.frz a).trans (h.frz a)
theorem Goes.weaken {A A' : Nat → Prop} {w w' : World} (h : Goes A w w') (hA : ∀ b, b < w.heap.size → A b → A' b) : Goes A' w w' :=
  { h with same := fun b hb ha => h.same b hb (fun x => ha (hA b hb x)) }

theorem cell_same {w w' : World} {b : Nat} (h : w'.heap[b]? = w.heap[b]?) (o : Nat) : w'.cell? ⟨b, o, none⟩ = w.cell? ⟨b, o, none⟩ := by
  simp only [World.cell?, h]

theorem RepD.mono {A A' : Nat → Prop} {w w' : World} (hg : Goes A w w') (hA : ∀ b, b < w.heap.size → A' b → A b) {d : D} {v : Value} (h : RepD A w d v) : RepD A' w' d v := by
  induction h with
  | c v h1 => exact .c v h1
  | emp sz a cap => exact .emp sz a cap
  | lst sz rows b o cap cell hcap hb hn hw hc hd ih =>
    refine .lst sz rows b o cap cell hcap (Nat.lt_of_lt_of_le hb hg.size) (fun x => hn (hA b hb x)) hw (fun i row j d h1 h2 => ?_) ih
    rw [cell_same (hg.same b hb hn)]
    exact hc i row j d h1 h2

inductive RepV (A : Nat → Prop) (ids : Nat → Nat × Nat) (w : World) : V → Value → Prop
  | un (v : Value) : RepV A ids w .un v
  | c (v : Value) : RepV A ids w (.c v) v
  | lst (sz : Nat) (rows : List (List D)) (clip : Bool) (v : Value) (h : RepD A w (.lst sz rows) v) (hcl : clip = true → ∃ a, v = .slice a rows.length rows.length) : RepV A ids w (.lst sz rows clip) v
  | sl (n sz off len cap : Nat) (ad : Option Addr) (hl : len ≤ cap) (hc : cap ≠ 0 → ∃ (arr : Array Value) (T : TypeId), w.heap[(ids n).1]? = some (.cells arr T (0, 0)) ∧
      ad = some ⟨(ids n).1, (ids n).2 + off * sz, none⟩ ∧ (ids n).2 + (off + cap) * sz ≤ arr.size) : RepV A ids w (.sl n sz off len) (.slice ad len cap)
  | sx (n sz off len cap : Nat) (ad : Option Addr) (hl : len ≤ cap) (hc : cap ≠ 0 → ∃ (arr : Array Value) (T : TypeId), w.heap[(ids n).1]? = some (.cells arr T (0, 0)) ∧
      ad = some ⟨(ids n).1, (ids n).2 + off * sz, none⟩ ∧ (ids n).2 + (off + cap) * sz ≤ arr.size) : RepV A ids w (.sx n sz off len cap) (.slice ad len cap)
  | ac0 (n sz : Nat) (ad : Option Addr) : RepV A ids w (.ac n sz 0) (.slice ad 0 0)
  | ac1 (n sz len : Nat) (v : Value) (h0 : len ≠ 0) (h : RepV A ids w (.sl n sz 0 len) v) : RepV A ids w (.ac n sz len) v
  | p (n sz i j : Nat) : RepV A ids w (.p n sz i j) (.pointer (some ⟨(ids n).1, (ids n).2 + (i * sz + j), none⟩))
  | q (row : List D) (j b o : Nat) (cell : Nat → Value) (hb : b < w.heap.size) (hA : ¬ A b) (hc : ∀ (k : Nat) (d : D), row[k]? = some d → w.cell? ⟨b, o + k, none⟩ = some (cell k))
      (hd : ∀ (k : Nat) (d : D), row[k]? = some d → RepD A w d (cell k)) : RepV A ids w (.q row j) (.pointer (some ⟨b, o + j, none⟩))
  | agg (xs : List V) (arr : Array Value) (hs : arr.size = xs.length) (h : ∀ (i : Nat) (x : V) (v : Value), xs[i]? = some x → arr[i]? = some v → RepV A ids w x v) : RepV A ids w (.agg xs) (.agg arr)
  | tup (xs : List V) (arr : Array Value) (hs : arr.size = xs.length) (h : ∀ (i : Nat) (x : V) (v : Value), xs[i]? = some x → arr[i]? = some v → RepV A ids w x v) : RepV A ids w (.tup xs) (.tuple arr)
  | fn (f : Fn) (xs ys : List V) (ar br : Array Value) (hs : ar.size = xs.length) (hs' : br.size = ys.length)
      (h : ∀ (i : Nat) (x : V) (v : Value), xs[i]? = some x → ar[i]? = some v → RepV A ids w x v) (h' : ∀ (i : Nat) (x : V) (v : Value), ys[i]? = some x → br[i]? = some v → RepV A ids w x v) :
      RepV A ids w (.fn f xs ys) (.func f ar br)
  | ifc (t : TypeId) (x : V) (v : Value) (h : RepV A ids w x v) : RepV A ids w (.ifc t x) (.iface t v)
  | mp (n : Nat) : RepV A ids w (.mp n) (.map (some (ids n).1))

theorem RepV.mono {A A' : Nat → Prop} {ids ids' : Nat → Nat × Nat} {w w' : World} {m : Nm} (hg : Goes A w w') (hA : ∀ b, b < w.heap.size → A' b → A b) (hi : ∀ n, m n → ids' n = ids n)
    {x : V} {v : Value} (h : RepV A ids w x v) (hb : x.Below m) : RepV A' ids' w' x v := by
  induction h with
  | un v => exact .un v
  | c v => exact .c v
  | lst sz rows clip v h hcl => exact .lst _ _ _ _ (h.mono hg hA) hcl
  | sl n sz off len cap ad hl hc =>
    cases hb with
    | sl _ _ _ _ hn =>
      refine .sl _ _ _ _ _ _ hl fun h0 => ?_
      obtain ⟨arr, T, h1, h2, h3⟩ := hc h0
      obtain ⟨arr', h4, h5⟩ := hg.shape _ _ _ _ h1
      exact ⟨arr', T, by rw [hi n hn]; exact h4, by rw [hi n hn]; exact h2, by rw [h5, hi n hn]; exact h3⟩
  | sx n sz off len cap ad hl hc =>
    cases hb with
    | sx _ _ _ _ _ hn =>
      refine .sx _ _ _ _ _ _ hl fun h0 => ?_
      obtain ⟨arr, T, h1, h2, h3⟩ := hc h0
      obtain ⟨arr', h4, h5⟩ := hg.shape _ _ _ _ h1
      exact ⟨arr', T, by rw [hi n hn]; exact h4, by rw [hi n hn]; exact h2, by rw [h5, hi n hn]; exact h3⟩
  | ac0 n sz ad => exact .ac0 ..
  | ac1 n sz len v h0 h ih =>
    cases hb with
    | ac _ _ _ hn => exact .ac1 _ _ _ _ h0 (ih (.sl _ _ _ _ hn))
  | p n sz i j =>
    cases hb with
    | p _ _ _ _ hn => rw [← hi n hn]; exact .p ..
  | q row j b o cell hb' hn hc hd =>
    refine .q row j b o cell (Nat.lt_of_lt_of_le hb' hg.size) (fun x => hn (hA b hb' x)) (fun k d hk => ?_) (fun k d hk => (hd k d hk).mono hg hA)
    rw [cell_same (hg.same b hb' hn)]
    exact hc k d hk
  | agg xs arr hs h ih =>
    cases hb with
    | agg _ hx => exact .agg _ _ hs fun i x v h1 h2 => ih i x v h1 h2 (hx x (List.mem_of_getElem? h1))
  | tup xs arr hs h ih =>
    cases hb with
    | tup _ hx => exact .tup _ _ hs fun i x v h1 h2 => ih i x v h1 h2 (hx x (List.mem_of_getElem? h1))
  | fn f xs ys ar br hs hs' h h' ih ih' =>
    cases hb with
    | fn _ _ _ hx hy => exact .fn _ _ _ _ _ hs hs' (fun i x v h1 h2 => ih i x v h1 h2 (hx x (List.mem_of_getElem? h1))) (fun i x v h1 h2 => ih' i x v h1 h2 (hy x (List.mem_of_getElem? h1)))
  | ifc t x v h ih =>
    cases hb with
    | ifc _ _ hx => exact .ifc _ _ _ (ih hx)
  | mp n =>
    cases hb with
    | mp _ hn => rw [← hi n hn]; exact .mp ..

theorem RepD.toV {A : Nat → Prop} {ids : Nat → Nat × Nat} {w : World} {d : D} {v : Value} (h : RepD A w d v) : RepV A ids w d.toV v := by
  cases d with
  | c u => cases h; exact .c _
  | lst sz rows => exact .lst _ _ _ _ h (by simp)

/-- data that fill one cell each -/
def D.leaf : D → Bool
  | .c v => v.oneCell'
  | .lst _ _ => true
def leaves (r : List (List D)) : Prop := ∀ row ∈ r, row.all D.leaf = true
/-- block b of the world is what the name stands for -/
def RepR (A : Nat → Prop) (ids : Nat → Nat × Nat) (w : World) (b : Nat × Nat) (sz : Nat) (r : List (List V)) : Prop :=
  ∃ (arr : Array Value) (T : TypeId), w.heap[b.1]? = some (.cells arr T (0, 0)) ∧ b.2 + r.length * sz ≤ arr.size ∧ (∀ row ∈ r, row.length = sz) ∧
      ∀ (i : Nat) (row : List V) (j : Nat) (x : V), r[i]? = some row → row[j]? = some x → ∃ v, arr[b.2 + (i * sz + j)]? = some v ∧ RepV A ids w x v
def RepB (A : Nat → Prop) (ids : Nat → Nat × Nat) (w : World) (b : Nat × Nat) : B → Prop
  | .rows sz r => RepR A ids w b sz r
  | .dat sz r => (r ≠ [] → RepR A ids w b sz (toVs r)) ∧ leaves r
  | .map es => ∃ (ar : Array MapEntry) (k : Nat), w.heap[b.1]? = some (.map ar k) ∧ ar.size = es.length ∧
      ∀ (i : Nat) (e : Value × V) (m : MapEntry), es[i]? = some e → ar[i]? = some m → m.key = e.1 ∧ RepV A ids w e.2 m.val
theorem RepB.see {A : Nat → Prop} {ids : Nat → Nat × Nat} {w : World} {b : Nat × Nat} {x : B} (h : RepB A ids w b x) (hr : x.real = true) : RepB A ids w b x.see := by
  cases x with
  | dat sz r => exact h.1 (by rintro rfl; simp [B.real] at hr)
  | _ => exact h

/-- the blocks that have a name -/
def Live (h : Hp) (ids : Nat → Nat × Nat) (b : Nat) : Prop := ∃ n x, h n = some x ∧ x.real = true ∧ (ids n).1 = b
/-- what may not be read as immutable data: the caller's own, and what has a name here -/
def Avoid (F : Nat → Prop) (h : Hp) (ids : Nat → Nat × Nat) (b : Nat) : Prop := F b ∨ Live h ids b

structure RepH (F : Nat → Prop) (ids : Nat → Nat × Nat) (w : World) (h : Hp) (nx : Nm) : Prop where
  lt : ∀ n b, h n = some b → nx n
  blk : ∀ n b, h n = some b → RepB (Avoid F h ids) ids w (ids n) b
  below : ∀ n b, h n = some b → b.Below nx
  inj : ∀ n m b c, h n = some b → h m = some c → b.real = true → c.real = true → (ids n).1 = (ids m).1 → n = m
  out : ∀ n b, h n = some b → b.real = true → ¬ F (ids n).1
  fsz : ∀ b, F b → b < w.heap.size

theorem RepB.lt {A : Nat → Prop} {ids : Nat → Nat × Nat} {w : World} {b : Nat × Nat} {x : B} (h : RepB A ids w b x) (hr : x.real = true) : b.1 < w.heap.size := by
  cases x with
  | rows sz r =>
    obtain ⟨arr, T, hb, _⟩ := h
    exact (Array.getElem?_eq_some_iff.1 hb).1
  | dat sz r =>
    obtain ⟨arr, T, hb, _⟩ := h.1 (by rintro rfl; simp [B.real] at hr)
    exact (Array.getElem?_eq_some_iff.1 hb).1
  | map es =>
    obtain ⟨arr, k, hb, _⟩ := h
    exact (Array.getElem?_eq_some_iff.1 hb).1

theorem RepR.mono {A A' : Nat → Prop} {ids ids' : Nat → Nat × Nat} {w w' : World} {m : Nm} {b : Nat × Nat} (hg : Goes A w w') (hA : ∀ b, b < w.heap.size → A' b → A b) (hi : ∀ n, m n → ids' n = ids n)
    {sz : Nat} {r : List (List V)} (h : RepR A ids w b sz r) (hb : ∀ row ∈ r, ∀ x ∈ row, x.Below m) (hs : w'.heap[b.1]? = w.heap[b.1]?) : RepR A' ids' w' b sz r := by
  obtain ⟨arr, T, h1, h2, h3, h4⟩ := h
  refine ⟨arr, T, by rw [hs]; exact h1, h2, h3, fun i row j x hr hx => ?_⟩
  obtain ⟨v, hv, hr'⟩ := h4 i row j x hr hx
  exact ⟨v, hv, hr'.mono hg hA hi (hb row (List.mem_of_getElem? hr) x (List.mem_of_getElem? hx))⟩
/-- the block itself is as it was; the world round it has gone on -/
theorem RepB.mono {A A' : Nat → Prop} {ids ids' : Nat → Nat × Nat} {w w' : World} {m : Nm} {b : Nat × Nat} (hg : Goes A w w') (hA : ∀ b, b < w.heap.size → A' b → A b) (hi : ∀ n, m n → ids' n = ids n)
    {x : B} (h : RepB A ids w b x) (hb : x.Below m) (hs : x.real = true → w'.heap[b.1]? = w.heap[b.1]?) : RepB A' ids' w' b x := by
  cases x with
  | rows sz r => exact RepR.mono hg hA hi h hb (hs rfl)
  | dat sz r =>
    refine ⟨fun hr => ?_, h.2⟩
    exact RepR.mono hg hA hi (h.1 hr) (toVs_below m r) (hs (by cases r with | nil => exact absurd rfl hr | cons _ _ => rfl))
  | map es =>
    obtain ⟨ar, k, h1, h2, h3⟩ := h
    refine ⟨ar, k, by rw [hs rfl]; exact h1, h2, fun i e mm he hm => ?_⟩
    obtain ⟨hk, hv⟩ := h3 i e mm he hm
    exact ⟨hk, hv.mono hg hA hi (hb e (List.mem_of_getElem? he))⟩

/-- a frame's slots stand for t -/
structure RepT (F : Nat → Prop) (ids : Nat → Nat × Nat) (w : World) (M : Nm) (t : Nat → V) (h : Hp) (n : Nat) (a : Act) : Prop where
  heap : RepH F ids w h M
  tmps : ∀ i, RepV (Avoid F h ids) ids w (t i) (a.tmps.getD i undef)
  size : a.tmps.size = n
  out : ∀ i, n ≤ i → t i = .un
  below : ∀ i, (t i).Below M
  defers : a.defers = []

/-- a frame represents a state -/
abbrev Rep (F : Nat → Prop) (ids : Nat → Nat × Nat) (w : World) (s : St) (a : Act) : Prop := RepT F ids w (Lt s.b) s.t s.h s.n a

end Go.Proofs.Ytmihhkcbbdpnaaa.Abs
