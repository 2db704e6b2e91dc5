/- The abstract machine, part 3: the operations on states, as functions. -/
import Derived.Test.YtmihhkcbbdpnaaaA2
namespace Go.Proofs.Ytmihhkcbbdpnaaa.Abs

inductive TK where
  | leaf | bool | func | ptr (e : TypeId) | int (k : IntKind) | iface | slice (e : TypeId) | struct (fs : List (Nat × TypeId)) | array (n : Nat) (e : TypeId) | map (k e : TypeId)
structure Ty where
  size : Nat
  bytes : Nat
  agg : Bool
  zero : List Value
  kind : TK
abbrev Tab := TypeId → Option Ty

inductive Fits : TypeDesc → TK → Bool → Prop
  | leaf (d : TypeDesc) (h : (match d with | .struct _ | .array _ _ | .interface _ => true | _ => false) = false) : Fits d .leaf false
  | bool : Fits .bool .bool false
  | func (a b : Array TypeId) (v : Bool) : Fits (.func a b v) .func false
  | ptr (e : TypeId) : Fits (.pointer e) (.ptr e) false
  | int (k : IntKind) : Fits (.int k) (.int k) false
  | iface (ms : Array (String × TypeId)) : Fits (.interface ms) .iface false
  | slice (e : TypeId) : Fits (.slice e) (.slice e) false
  | struct (fs : Array Field) (l : List (Nat × TypeId)) (h : fs.toList.map (fun f => (f.offset, f.type)) = l) : Fits (.struct fs) (.struct l) true
  | array (n : Nat) (e : TypeId) : Fits (.array n e) (.array n e) true
  | map (k e : TypeId) : Fits (.map k e) (.map k e) false

structure TyOk (P : Program) (t : TypeId) (τ : Ty) : Prop where
  info : ∃ i z, P.info? t = some i ∧ i.size = τ.size ∧ i.bytes = τ.bytes ∧ i.zero = some z ∧ z.cells.toList = τ.zero ∧ (τ.agg = true → z = .agg τ.zero.toArray)
  under : ∃ d, P.underlying t = some d ∧ Fits d τ.kind τ.agg
  zlen : τ.zero.length = τ.size

theorem TyOk.mk' {P : Program} {t : TypeId} {τ : Ty} {z : Value} {d : TypeDesc} (h : (P.info? t).map (fun i => (i.size, i.bytes, i.zero)) = some (τ.size, τ.bytes, some z))
    (hz : z.cells.toList = τ.zero) (ha : τ.agg = true → z = .agg τ.zero.toArray) (hu : P.underlying t = some d) (hf : Fits d τ.kind τ.agg) (hl : τ.zero.length = τ.size) : TyOk P t τ := by
  cases hi : P.info? t with
  | none => rw [hi] at h; simp at h
  | some i =>
    rw [hi] at h
    simp only [Option.map_some, Option.some.injEq, Prod.mk.injEq] at h
    exact ⟨⟨i, z, hi, h.1, h.2.1, h.2.2, hz, ha⟩, ⟨d, hu, hf⟩, hl⟩

abbrev TabOk (P : Program) (tab : Tab) : Prop := ∀ t τ, tab t = some τ → TyOk P t τ

def look : List (TypeId × Ty) → Tab
  | [], _ => none
  | (k, τ) :: l, t => if t = k then some τ else look l t
def AllOk (P : Program) : List (TypeId × Ty) → Prop
  | [] => True
  | p :: l => TyOk P p.1 p.2 ∧ AllOk P l
theorem look_ok {P : Program} {l : List (TypeId × Ty)} (h : AllOk P l) : TabOk P (look l) := by
  intro t τ ht
  induction l with
  | nil => cases ht
  | cons p l ih =>
    simp only [look] at ht
    split at ht
    · next e => cases ht; rw [e]; exact h.1
    · exact ih h.2 ht

/-! ### values -/
abbrev V.int (n : Int) : V := .c (.int .i64 n)
abbrev V.bool (b : Bool) : V := .c (.bool b)
abbrev V.nil : V := .c (.slice none 0 0)
def V.leaf : V → Bool
  | .c v => v.oneCell'
  | .un | .agg _ | .tup _ => false
  | _ => true
/-- the cells that a value fills -/
def V.cells : V → Option (List V)
  | .agg xs => some xs
  | x => if x.leaf then some [x] else none
def cV : Value → V
  | .agg cs => .agg (cs.toList.map .c)
  | .tuple cs => .tup (cs.toList.map .c)
  | v => .c v

def evS (t : Nat → V) : Operand → V
  | .tmp i => t i
  | .const v => cV v
  | .global _ => .un
  | .func f => .fn (.func f) [] []

def wr (k : IntKind) (n : Int) : Int := k.wrap n

def intBin (op : BinOp) (k : IntKind) (a b : Int) : Option V :=
  match op with
  | .add => some (.c (.int k (wr k (a + b))))
  | .sub => some (.c (.int k (wr k (a - b))))
  | .mul => some (.c (.int k (wr k (a * b))))
  | .quo => if b = 0 then none else some (.c (.int k (wr k (a.tdiv b))))
  | .rem => if b = 0 then none else some (.c (.int k (a.tmod b)))
  | .and => some (.c (.int k (bits .and k a b)))
  | .or => some (.c (.int k (bits .or k a b)))
  | .eql => some (.c (.bool (decide (a = b))))
  | .neq => some (.c (.bool (!decide (a = b))))
  | .lss => some (.c (.bool (decide (a < b))))
  | .leq => some (.c (.bool (decide (a ≤ b))))
  | .gtr => some (.c (.bool (decide (b < a))))
  | .geq => some (.c (.bool (decide (b ≤ a))))
  | _ => none

def shiftBin (op : BinOp) (k : IntKind) (a b : Int) : Option V :=
  if b < 0 then none else
  match op with
  | .shl => some (.c (.int k (wr k (a * 2 ^ (min b.toNat k.bits)))))
  | .shr => some (.c (.int k (a.fdiv (2 ^ (min b.toNat k.bits)))))
  | _ => none

/-- both leaf data of kinds that are compared as they lie -/
def leafEq : V → V → Option Bool
  | .c (.int k a), .c (.int k' b) => if k = k' then some (decide (a = b)) else none
  | .c (.bool a), .c (.bool b) => some (a == b)
  | _, _ => none
def listEq : List V → List V → Option Bool
  | [], [] => some true
  | x :: xs, y :: ys => (leafEq x y).bind fun b => (listEq xs ys).bind fun c => some (b && c)
  | _, _ => none

def isNilK (k : TK) (x : V) : Option Bool :=
  match k with
  | .slice _ => match x with
    | .c (.slice none _ _) => some true
    | .lst _ [] _ => none
    | .lst _ (_ :: _) _ => some false
    | _ => none
  | .ptr _ => match x with
    | .c (.pointer none) => some true
    | .p _ _ _ _ => some false
    | .q _ _ => some false
    | _ => none
  | .func => match x with
    | .c .nilFunc => some true
    | .fn _ _ _ => some false
    | _ => none
  | .iface => match x with
    | .c .nilIface => some true
    | .ifc _ _ => some false
    | _ => none
  | .map _ _ => match x with
    | .c (.map none) => some true
    | .mp _ => some false
    | _ => none
  | _ => none
def isNil (k : Option TK) (x : V) : Option Bool := k.bind fun k => isNilK k x
def nilK (k : TK) (v : Value) : Bool :=
  match k with
  | .slice _ => match v with
    | .slice none 0 0 => true
    | _ => false
  | .ptr _ => match v with
    | .pointer none => true
    | _ => false
  | .func => match v with
    | .nilFunc => true
    | _ => false
  | .iface => match v with
    | .nilIface => true
    | _ => false
  | .map _ _ => match v with
    | .map none => true
    | _ => false
  | _ => false
def nilOp (k : Option TK) : Operand → Bool
  | .const v => k.any fun k => nilK k v
  | _ => false

def binV (tk : Option TK) (op : BinOp) (x y : V) : Option V :=
  match x, y with
  | .c (.int k a), .c (.int k' b) =>
    match op with
    | .shl | .shr => shiftBin op k a b
    | _ => if k = k' then intBin op k a b else none
  | .c (.bool a), .c (.bool b) =>
    match op, tk with
    | .eql, some .bool => some (.c (.bool (a == b)))
    | .neq, some .bool => some (.c (.bool (!(a == b))))
    | _, _ => none
  | _, _ => none

def unV (op : UnOp) (x : V) : Option V :=
  match op, x with
  | .neg, .c (.int k n) => some (.c (.int k (wr k (0 - n))))
  | .not, .c (.bool b) => some (.c (.bool (!b)))
  | _, _ => none

def convV (tab : Tab) (dst : TypeId) (x : V) : Option V :=
  match (tab dst).map Ty.kind, x with
  | some (.int k), .c (.int _ n) => some (.c (.int k (wr k n)))
  | _, _ => none

def rowsOf (h : Hp) (n sz : Nat) : Option (List (List V)) :=
  match h n with
  | some (.rows sz' r) => if sz' = sz then some r else none
  | _ => none
def datOf (h : Hp) (n sz : Nat) : Option (List (List D)) :=
  match h n with
  | some (.dat sz' r) => if sz' = sz then some r else none
  | _ => none

def loadRow (τ : Ty) (row : List V) (j : Nat) : Option V :=
  if τ.agg then (if j + τ.size ≤ row.length then some (.agg ((row.drop j).take τ.size)) else none) else row[j]?

def loadV (tab : Tab) (h : Hp) (t : TypeId) (a : V) : Option V :=
  (tab t).bind fun τ =>
  match a with
  | .p n sz i j =>
    match h n with
    | some (.rows sz' r) => if sz' = sz then (r[i]?).bind fun row => loadRow τ row j else none
    | some (.dat sz' r) => if sz' = sz then (r[i]?).bind fun row => loadRow τ (row.map D.toV) j else none
    | _ => none
  | .q row j => loadRow τ (row.map D.toV) j
  | _ => none

/-- values that may lie in a block of data -/
def V.toD : V → Option D
  | .c v => if v.oneCell' = true then some (.c v) else none
  | .lst sz rows _ => some (.lst sz rows)
  | _ => none
def toDs : List V → Option (List D)
  | [] => some []
  | x :: xs => x.toD.bind fun d => (toDs xs).map fun ds => d :: ds

def spliceV {α : Type} (row : List α) (j : Nat) (xs : List α) : List α := row.take j ++ (xs ++ row.drop (j + xs.length))

def storeV (tab : Tab) (h : Hp) (t : TypeId) (a x : V) : Option Hp :=
  (tab t).bind fun τ =>
  match a with
  | .p n sz i j =>
    match h n with
    | some (.rows sz' r) =>
      if sz' = sz then
        (r[i]?).bind fun row => (x.cells).bind fun xs =>
        if xs.length = τ.size ∧ j + xs.length ≤ row.length ∧ xs.all V.leaf = true then some (upd h n (some (.rows sz (r.set i (spliceV row j xs))))) else none
      else none
    | some (.dat sz' r) =>
      if sz' = sz then
        (r[i]?).bind fun row => (x.cells).bind fun xs => (toDs xs).bind fun ds =>
        if ds.length = τ.size ∧ j + ds.length ≤ row.length then some (upd h n (some (.dat sz (r.set i (spliceV row j ds))))) else none
      else none
    | _ => none
  | _ => none

def fieldV (tab : Tab) (s : TypeId) (f : Nat) : Option (Nat × Ty) :=
  (tab s).bind fun τ =>
  match τ.kind with
  | .struct fs => (fs[f]?).bind fun p => (tab p.2).map fun τ' => (p.1, τ')
  | _ => none

def fieldAddrV (tab : Tab) (s : TypeId) (x : V) (f : Nat) : Option V :=
  (fieldV tab s f).bind fun p =>
  if p.2.size = 0 then none else
  match x with
  | .p n sz i j => some (.p n sz i (j + p.1))
  | .q row j => some (.q row (j + p.1))
  | _ => none

def fieldValV (tab : Tab) (s : TypeId) (x : V) (f : Nat) : Option V :=
  (fieldV tab s f).bind fun p =>
  match x with
  | .agg xs => loadRow p.2 xs p.1
  | _ => none

def elemV (tab : Tab) (t : TypeId) : Option Ty :=
  (tab t).bind fun τ =>
  match τ.kind with
  | .slice e => tab e
  | .array _ e => tab e
  | _ => none

def sliceElem (tab : Tab) (t : TypeId) : Option Ty :=
  (tab t).bind fun τ =>
  match τ.kind with
  | .slice e => tab e
  | _ => none

def indexAddrV (tab : Tab) (t : TypeId) (x ix : V) : Option V :=
  (tab t).bind fun τ => (elemV tab t).bind fun ε =>
  match τ.kind, x, ix with
  | .slice _, .sl n sz off len, .c (.int _ i) => if ε.size = sz ∧ 0 ≤ i ∧ i < len then some (.p n sz (off + i.toNat) 0) else none
  | .slice _, .ac n sz len, .c (.int _ i) => if ε.size = sz ∧ 0 ≤ i ∧ i < len then some (.p n sz i.toNat 0) else none
  | .slice _, .lst sz rows _, .c (.int _ i) => if ε.size = sz ∧ 0 ≤ i ∧ i < rows.length then (rows[i.toNat]?).map fun row => .q row 0 else none
  | .array m _, .p n sz a j, .c (.int _ i) => if 0 ≤ i ∧ i < m then some (.p n sz a (j + i.toNat * ε.size)) else none
  | _, _, _ => none

def indexV (tab : Tab) (t : TypeId) (x ix : V) : Option V :=
  (tab t).bind fun τ => (elemV tab t).bind fun ε =>
  match τ.kind, x, ix with
  | .array m _, .agg xs, .c (.int _ i) => if 0 ≤ i ∧ i < m then loadRow ε xs (i.toNat * ε.size) else none
  | _, _, _ => none

def lenV (h : Hp) (k : TK) (x : V) : Option Nat :=
  match k with
  | .slice _ => match x with
    | .sl _ _ _ len => some len
    | .ac _ _ len => some len
    | .lst _ rows _ => some rows.length
    | .c (.slice none 0 0) => some 0
    | _ => none
  | .map _ _ => match x with
    | .mp n => match h n with
      | some (.map es) => some es.length
      | _ => none
    | _ => none
  | _ => none

def bound1 (y dflt : Nat) : Option V → Option Nat
  | none => some dflt
  | some (.c (.int _ i)) => if 0 ≤ i ∧ i ≤ y then some i.toNat else none
  | some _ => none
def bound (len : Nat) (lo hi : Option V) : Option (Nat × Nat) := (bound1 len len hi).bind fun b => (bound1 b 0 lo).map fun a => (a, b)

def sameInt : Option V → Option V → Bool
  | some (.c (.int _ a)), some (.c (.int _ b)) => decide (a = b)
  | _, _ => false
/-- s[lo:hi:mx]; mx only where it is the same as hi -/
def sliceV (tab : Tab) (t : TypeId) (x : V) (lo hi mx : Option V) : Option V :=
  (tab t).bind fun τ => (elemV tab t).bind fun ε =>
  match τ.kind, x with
  | .slice _, .sl n sz off len => if ε.size = sz ∧ mx.isNone then (bound len lo hi).map fun (a, b) => .sl n sz (off + a) (b - a) else none
  | .slice _, .ac n sz len => if ε.size = sz ∧ mx.isNone then (bound len lo hi).map fun (a, b) => .sl n sz a (b - a) else none
  | .slice _, .lst sz rows clip =>
    if ε.size = sz then
      (if mx.isNone then (bound rows.length lo hi).map fun (a, b) => .lst sz ((rows.drop a).take (b - a)) (clip && decide (b = rows.length))
       else if sameInt hi mx = true then (bound rows.length lo hi).map fun (a, b) => .lst sz ((rows.drop a).take (b - a)) true else none)
    else none
  | .slice _, .c (.slice none 0 0) => if mx.isNone ∨ sameInt hi mx = true then (bound 0 lo hi).map fun _ => .c (.slice none 0 0) else none
  | _, _ => none

def rowsFrom (h : Hp) : V → Option (List (List V))
  | .sl n sz off len => (rowsOf h n sz).bind fun r => if off + len ≤ r.length then some ((r.drop off).take len) else none
  | _ => none
/-- the rows of data that a slice shows -/
def dRows (h : Hp) (sz : Nat) : V → Option (List (List D))
  | .lst sz' rows _ => if sz' = sz then some rows else none
  | .c (.slice none 0 0) => some []
  | .ac n sz' len => if sz' = sz then (datOf h n sz).bind fun r => if len = r.length then some r else none else none
  | .sl n sz' off len => if sz' = sz then (datOf h n sz).bind fun r => if off + len ≤ r.length then some ((r.drop off).take len) else none else none
  | _ => none

def placeRows (size : Nat) (cells : List V) : List (Nat × V) → Option (List V)
  | [] => some cells
  | (i, x) :: rest => (x.cells).bind fun xs => if xs.length = size ∧ i * size + xs.length ≤ cells.length then placeRows size (spliceV cells (i * size) xs) rest else none

def fillV (place : Nat → Option (Nat × Nat)) (cells : List V) : List (Nat × V) → Option (List V)
  | [] => some cells
  | (i, x) :: rest => (place i).bind fun p => (x.cells).bind fun xs => if xs.length = p.2 ∧ p.1 + xs.length ≤ cells.length then fillV place (spliceV cells p.1 xs) rest else none

def buildV (tab : Tab) (t : TypeId) (parts : List (Nat × V)) : Option V :=
  (tab t).bind fun τ =>
  match τ.kind with
  | .struct fs => if (fs.all fun p => (tab p.2).isSome) = true then (fillV (fun i => (fs[i]?).bind fun p => (tab p.2).map fun τ' => (p.1, τ'.size)) (τ.zero.map .c) parts).map .agg else none
  | .array _ e => (tab e).bind fun ε => (fillV (fun i => some (i * ε.size, ε.size)) (τ.zero.map .c) parts).map .agg
  | _ => none

def rowsV (sz : Nat) : Nat → List V → List (List V)
  | 0, _ => []
  | n + 1, l => l.take sz :: rowsV sz n (l.drop sz)

def zeroCellsV : Nat → List V → List V
  | 0, _ => []
  | n + 1, z => z ++ zeroCellsV n z

def dsOf : List (List V) → Option (List (List D))
  | [] => some []
  | r :: rs => (toDs r).bind fun d => (dsOf rs).map fun ds => d :: ds
def buildSliceV (tab : Tab) (nm : Nat) (h : Hp) (t : TypeId) (len : Nat) (parts : List (Nat × V)) : Option (V × Hp) :=
  (sliceElem tab t).bind fun ε =>
  if len * ε.size ≤ 16777216 then
    (fillV (fun i => some (i * ε.size, ε.size)) (zeroCellsV len (ε.zero.map V.c)) parts).bind fun cs =>
      match dsOf (rowsV ε.size len cs) with
      | some ds => some (.lst ε.size ds true, h)
      | none => some (.sl nm ε.size 0 len, upd h nm (some (.rows ε.size (rowsV ε.size len cs))))
  else none

def appendV (tab : Tab) (nm : Nat) (h : Hp) (t : TypeId) (s x : V) : Option (V × Hp) :=
  (sliceElem tab t).bind fun ε =>
  if ε.bytes ≤ 4096 then
    match dRows h ε.size x with
    | some src =>
      match s with
      | .c (.slice none 0 0) => if src.length < 2147483648 then some (.ac nm ε.size src.length, upd h nm (some (.dat ε.size src))) else none
      | .lst sz rows clip =>
        if sz = ε.size ∧ clip = true ∧ rows.length + src.length < 2147483648 ∧ (src = [] → rows = []) then
          some (.ac nm sz (rows.length + src.length), upd h nm (some (.dat sz (rows ++ src))))
        else none
      | .ac n sz len =>
        (datOf h n sz).bind fun r =>
        if sz = ε.size ∧ len = r.length ∧ len + src.length < 2147483648 then some (.ac nm sz (len + src.length), upd (upd h n none) nm (some (.dat sz (r ++ src)))) else none
      | .sl n sz off len =>
        (datOf h n sz).bind fun r =>
        if sz = ε.size ∧ r ≠ [] ∧ off + len ≤ r.length ∧ len + src.length < 2147483648 then
          some (.sl nm sz 0 (len + src.length), upd (upd h n none) nm (some (.dat sz ((r.drop off).take len ++ src))))
        else none
      | _ => none
    | none =>
      (rowsFrom h x).bind fun src =>
      if src.all (fun row => decide (row.length = ε.size) && row.all V.leaf) = true then
        match s with
        | .c (.slice none 0 0) => if src.length < 2147483648 ∧ src ≠ [] then some (.sl nm ε.size 0 src.length, upd h nm (some (.rows ε.size src))) else none
        | .sl n sz off len =>
          (rowsOf h n sz).bind fun r =>
          if sz = ε.size ∧ off + len ≤ r.length ∧ len + src.length < 2147483648 then
            some (.sl nm sz 0 (len + src.length), upd (upd h n none) nm (some (.rows sz ((r.drop off).take len ++ src))))
          else none
        | _ => none
      else none
  else none

def nilCheckV (x : V) (h : Hp) : Option (V × Hp) :=
  match x with
  | .p _ _ _ _ => some (x, h)
  | .q _ _ => some (x, h)
  | .ifc _ _ => some (x, h)
  | .fn (.func _) _ _ => some (x, h)
  | _ => none

def ifaceV (tab : Tab) (t : TypeId) (x : V) (h : Hp) : Option (V × Hp) :=
  match (tab t).map Ty.kind with
  | none => none
  | some .iface => none
  | _ => some (.ifc t x, h)

def extractV (x : V) (i : Nat) (h : Hp) : Option (V × Hp) :=
  match x with
  | .tup xs => (xs[i]?).map fun v => (v, h)
  | _ => none

def binOpV (tab : Tab) (op : BinOp) (t : TypeId) (y : Operand) (vx vy : V) (h : Hp) : Option (V × Hp) :=
  match op, nilOp ((tab t).map Ty.kind) y with
  | .eql, true => (isNil ((tab t).map Ty.kind) vx).map fun b => (.bool b, h)
  | .neq, true => (isNil ((tab t).map Ty.kind) vx).map fun b => (.bool (!b), h)
  | _, _ => (binV ((tab t).map Ty.kind) op vx vy).map fun v => (v, h)

def minV (lt : Int → Int → Bool) (x y : V) : Option V :=
  match x, y with
  | .c (.int k a), .c (.int k' b) => if k = k' then some (.c (.int k (if lt b a = true then b else a))) else none
  | _, _ => none

def isSlice (tab : Tab) (t : TypeId) : Bool :=
  match (tab t).map Ty.kind with
  | some (.slice _) => true
  | _ => false

def callV (tab : Tab) (nm : Nat) (e : Operand → V) (h : Hp) (c : Call) : Option (V × Hp) :=
  match c.callee with
  | .builtin .len => match c.args.toList, c.argTypes.toList with
    | [x], [t] => ((tab t).bind fun τ => lenV h τ.kind (e x)).map fun (n : Nat) => (V.int (n : Int), h)
    | _, _ => none
  | .builtin .append => match c.args.toList, c.argTypes.toList with
    | [s, x], [t, t'] => if isSlice tab t' = true then appendV tab nm h t (e s) (e x) else none
    | _, _ => none
  | .builtin .min => match c.args.toList with
    | [x, y] => (minV (fun b a => decide (b < a)) (e x) (e y)).map fun v => (v, h)
    | _ => none
  | .builtin .max => match c.args.toList with
    | [x, y] => (minV (fun b a => decide (a < b)) (e x) (e y)).map fun v => (v, h)
    | _ => none
  | _ => none

/-- the value that an operation gives, and the heap behind it; a new block gets the name nm -/
def sop (tab : Tab) (nm : Nat) (e : Operand → V) (h : Hp) : Op → Option (V × Hp)
  | .move x => some (e x, h)
  | .assign x => some (e x, h)
  | .alloc t => (tab t).map fun τ => (.p nm τ.size 0 0, upd h nm (some (.rows τ.size [τ.zero.map .c])))
  | .box _ x => (e x).cells.map fun xs => (.p nm xs.length 0 0, upd h nm (some (.rows xs.length [xs])))
  | .build t parts => (buildV tab t (parts.toList.map fun p => (p.1, e p.2))).map fun v => (v, h)
  | .buildSlice t len parts => buildSliceV tab nm h t len (parts.toList.map fun p => (p.1, e p.2))
  | .load t a => (loadV tab h t (e a)).map fun v => (v, h)
  | .store t a x => (storeV tab h t (e a) (e x)).map fun h' => (.un, h')
  | .nilCheck x => nilCheckV (e x) h
  | .binOp op t x y _ => binOpV tab op t y (e x) (e y) h
  | .unOp op _ x => (unV op (e x)).map fun v => (v, h)
  | .convert src dst x => if (tab src).isSome = true then (convV tab dst (e x)).map fun v => (v, h) else none
  | .makeInterface t x => ifaceV tab t (e x) h
  | .makeFunc fn first cap => some (.fn fn (first.toList.map e) (cap.toList.map e), h)
  | .slice t x lo hi mx => (sliceV tab t (e x) (lo.map e) (hi.map e) (mx.map e)).map fun v => (v, h)
  | .fieldAddr s x f => (fieldAddrV tab s (e x) f).map fun v => (v, h)
  | .field s x f => (fieldValV tab s (e x) f).map fun v => (v, h)
  | .indexAddr t x i => (indexAddrV tab t (e x) (e i)).map fun v => (v, h)
  | .index t x i => (indexV tab t (e x) (e i)).map fun v => (v, h)
  | .extract x i => extractV (e x) i h
  | .call c => callV tab nm e h c
  | _ => none

end Go.Proofs.Ytmihhkcbbdpnaaa.Abs
