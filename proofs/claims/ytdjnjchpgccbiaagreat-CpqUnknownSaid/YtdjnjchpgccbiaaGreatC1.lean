/- The abstract machine, part 16: states as lists, and code reckoned by unfolding: a proposition that stands still where something is asked. -/
import Derived.Test.YtdjnjchpgccbiaaGreatL2
namespace Go.Proofs.YtdjnjchpgccbiaaGreat.Abs
set_option linter.unusedVariables false
inductive TT where
 | leaf
 | node (k : Nat) (τ : Ty) (l r : TT)
def TT.get : TT → TypeId → Option Ty
 | .leaf,_=>none
 | .node k τ l r,t=>match Nat.beq t k with
  | true=>some τ
  | false=>match Nat.blt t k with
   | true=>l.get t
   | false=>r.get t
def tAt : List V → Nat → V
 | [],_=>.un
 | x :: _,0=>x
 | _ :: l,n + 1=>tAt l n
def hAt : List (Nat × B) → Nat → Option B
 | [],_=>none
 | p :: l,n=>match Nat.beq n p.1 with
  | true=>some p.2
  | false=>hAt l n
def TT.Ok (P : Program) : TT → Prop
 | .leaf=>True
 | .node k τ l r=>TyOk P k τ ∧ l.Ok P ∧ r.Ok P
theorem TT.ok {P : Program} : ∀ {T : TT},T.Ok P → Zk P T.get
 | .leaf,_,t,τ,h=>by cases h
 | .node k τ0 l r,ho,t,τ,h=>by
  simp only [TT.get] at h
  split at h
  · next e=>cases h;rw [Nat.eq_of_beq_eq_true e];exact ho.1
  · split at h
    · exact TT.ok ho.2.1 t τ h
    · exact TT.ok ho.2.2 t τ h
inductive WrB (k : IntKind) (n : Int) (K : Int → Prop) : Prop
 | mk (h : K (wr k n)) : WrB k n K
inductive CB (p : Prop) (K : Prop) : Prop
 | mk (h : p) (k : K) : CB p K
inductive AtB (i : Int) (len : Nat) (K : Nat → Prop) : Prop
 | mk (m : Nat) (hi : i = (m : Int)) (h : m < len) (k : K m) : AtB i len K
inductive IdxB {α : Type} (l : List α) (i : Int) (K : α → Prop) : Prop
 | mk (m : Nat) (x : α) (hi : i = (m : Int)) (h : l[m]? = some x) (k : K x) : IdxB l i K
inductive GetB {α : Type} (l : List α) (i : Nat) (K : α → Prop) : Prop
 | mk (x : α) (h : l[i]? = some x) (k : K x) : GetB l i K
def ZtI (a : Nat) : Option Int → Prop
 | none=>a = 0
 | some i=>i = (a : Int)
def Zkw (len b : Nat) : Option Int → Prop
 | none=>b = len
 | some i=>i = (b : Int)
inductive SlB (len : Nat) (lo hi : Option Int) (K : Nat → Nat → Prop) : Prop
 | mk (a b : Nat) (ha : ZtI a lo) (hb : Zkw len b hi) (h1 : a ≤ b) (h2 : b ≤ len) (k : K a b) : SlB len lo hi K
inductive OkB (c : Bool) (K : Prop) : Prop
 | mk (h : c = true) (k : K) : OkB c K
inductive CallB (P : Program) (f : FuncId) (args : List V) (h : List (Nat × B)) (b : Nat) (K : V → List (Nat × B) → Prop) : Prop
 | mk (run : ACall P f args (hAt h) (Lt b) b fun v h'=>∃ l,h' = hAt l ∧ K v l) : CallB P f args h b K
inductive DCallB (P : Program) (f : FuncId) (args : List V) (h : List (Nat × B)) (b : Nat) (K : V → List (Nat × B) → Dyn → Prop) : Prop
 | mk (d : Dyn) (v : V) (u : List (Nat × Option B)) (l : List (Nat × B)) (hx : d.x = false) (run : LCall P f args d b u v (hAt h)) (hl : hAt l = Q1 (hAt h) u) (k : K v l d) : DCallB P f args h b K
def brK (x : Bool) (X Y : Prop) : Prop:=
 match x with
 | true=>X
 | false=>Y
def ZpE : List V → Nat → V → (List V → Prop) → Prop
 | [],_,_,_=>False
 | _ :: l,0,v,K=>K (v :: l)
 | x :: l,n + 1,v,K=>ZpE l n v fun l'=>K (x :: l')
def YC {α : Type} : List α → (List α → Prop) → Prop
 | [],K=>K []
 | x :: l,K=>YC l fun l'=>K (x :: l')
def ZuB (b : Nat) (K : Nat → Prop) : Prop:=
 match b + 65 with
 | 0=>False
 | n + 1=>K n
def ZtM (b : Nat) (K : Nat → Prop) : Prop:=
 match b + 2 with
 | 0=>False
 | n + 1=>K n
def Zty {α : Type} : List α → Nat → (Nat → Prop) → Prop
 | [],n,K=>K n
 | _ :: l,n,K=>ZtM n fun n=>Zty l n K
def Zc2 : List (Nat × B) → Nat → B → (List (Nat × B) → Prop) → Prop
 | [],n,b,K=>K [(n,b)]
 | p :: l,n,b,K=>match Nat.beq n p.1 with
  | true=>K ((n,b) :: l)
  | false=>Zc2 l n b fun l'=>K (p :: l')
def ZlQ : List (Nat × B) → Nat → (List (Nat × B) → Prop) → Prop
 | [],n,K=>K []
 | p :: l,n,K=>match Nat.beq n p.1 with
  | true=>ZlQ l n K
  | false=>ZlQ l n fun l'=>K (p :: l')
def evK (t : List V) (x : Operand) (K : V → Prop) : Prop:=
 match x with
 | .tmp i=>K (tAt t i)
 | .const v=>K (cV v)
 | .global _=>K .un
 | .func f=>K (.fn (.func f) [] [])
def Zov (x : V) (K : V → Prop) : Prop:=
 match x with
 | .un=>K .un
 | .c v=>match v with
  | .int k n=>K (.c (.int k n))
  | .bool z=>K (.c (.bool z))
  | v=>K (.c v)
 | .lst sz rows cl=>K (.lst sz rows cl)
 | .sl n sz off len=>K (.sl n sz off len)
 | .ac n sz len=>K (.ac n sz len)
 | .sx n sz off len cap=>K (.sx n sz off len cap)
 | .p n sz i j=>K (.p n sz i j)
 | .q row j=>K (.q row j)
 | .agg xs=>K (.agg xs)
 | .tup xs=>K (.tup xs)
 | .fn f a b=>K (.fn f a b)
 | .ifc t x=>K (.ifc t x)
 | .mp n=>K (.mp n)
def QO : List V → (List V → Prop) → Prop
 | [],K=>K []
 | x :: l,K=>Zov x fun x=>QO l fun l=>K (x :: l)
def ZbI (x : V) (K : V → Prop) : Prop:=
 match x with
 | .un=>K .un
 | .c v=>match v with
  | .int k n=>K (.c (.int k n))
  | .bool z=>K (.c (.bool z))
  | v=>K (.c v)
 | .lst sz rows cl=>K (.lst sz rows cl)
 | .sl n sz off len=>K (.sl n sz off len)
 | .ac n sz len=>K (.ac n sz len)
 | .sx n sz off len cap=>K (.sx n sz off len cap)
 | .p n sz i j=>K (.p n sz i j)
 | .q row j=>K (.q row j)
 | .agg xs=>QO xs fun xs=>K (.agg xs)
 | .tup xs=>QO xs fun xs=>K (.tup xs)
 | .fn f a b=>QO a fun a=>QO b fun b=>K (.fn f a b)
 | .ifc t x=>Zov x fun x=>K (.ifc t x)
 | .mp n=>K (.mp n)
def Zl9 : List V → (List V → Prop) → Prop
 | [],K=>K []
 | x :: l,K=>ZbI x fun x=>Zl9 l fun l=>K (x :: l)
def ZkD {α : Type} (o : Option α) (K : α → Prop) : Prop:=
 match o with
 | some x=>K x
 | none=>False
def ZpP (t : List V) : List Operand → (List V → Prop) → Prop
 | [],K=>K []
 | x :: l,K=>evK t x fun x=>ZbI x fun x=>ZpP t l fun l=>K (x :: l)
def ZrJ (t : List V) : List (Nat × Operand) → (List (Nat × V) → Prop) → Prop
 | [],K=>K []
 | p :: l,K=>evK t p.2 fun x=>ZbI x fun x=>ZrJ t l fun l=>K ((p.1,x) :: l)
def Zum (op : BinOp) (k : IntKind) (a b : Int) (K : V → Prop) : Prop:=
 match op with
 | .add=>WrB k (a + b) fun n=>K (.c (.int k n))
 | .sub=>WrB k (a - b) fun n=>K (.c (.int k n))
 | .mul=>WrB k (a * b) fun n=>K (.c (.int k n))
 | .quo=>CB (b ≠ 0) (WrB k (a.tdiv b) fun n=>K (.c (.int k n)))
 | .rem=>CB (b ≠ 0) (K (.c (.int k (a.tmod b))))
 | .and=>K (.c (.int k (bits .and k a b)))
 | .or=>K (.c (.int k (bits .or k a b)))
 | .eql=>K (.c (.bool (decide (a = b))))
 | .neq=>K (.c (.bool (!decide (a = b))))
 | .lss=>K (.c (.bool (decide (a < b))))
 | .leq=>K (.c (.bool (decide (a ≤ b))))
 | .gtr=>K (.c (.bool (decide (b < a))))
 | .geq=>K (.c (.bool (decide (b ≤ a))))
 | _=>False
def Zjq (op : BinOp) (k : IntKind) (a b : Int) (K : V → Prop) : Prop:=
 match op with
 | .shl=>CB (¬ b < 0) (WrB k (a * 2 ^ (min b.toNat k.bits)) fun n=>K (.c (.int k n)))
 | .shr=>CB (¬ b < 0) (K (.c (.int k (a.fdiv (2 ^ (min b.toNat k.bits))))))
 | _=>False
def ZkR (k k' : IntKind) (K : Prop) : Prop:=
 match k,k' with
 | .i64,.i64=>K
 | k,k'=>CB (k = k') K
def Zmi (tk : Option TK) (op : BinOp) (y : Operand) (vx vy : V) (K : V → Prop) : Prop:=
 match ZeE tk y with
 | true=>match op with
  | .eql=>ZkD (Zim tk vx) fun z=>K (.c (.bool z))
  | .neq=>ZkD (Zim tk vx) fun z=>K (.c (.bool (!z)))
  | _=>False
 | false=>match vx with
  | .c (.int k a)=>match vy with
   | .c (.int k' b)=>match op with
    | .shl=>Zjq .shl k a b K
    | .shr=>Zjq .shr k a b K
    | op=>ZkR k k' (Zum op k a b K)
   | _=>False
  | .c (.bool a)=>match vy with
   | .c (.bool b)=>match op,tk with
    | .eql,some .bool=>K (.c (.bool (a == b)))
    | .neq,some .bool=>K (.c (.bool (!(a == b))))
    | _,_=>False
   | _=>False
  | _=>False
def unK (op : UnOp) (x : V) (K : V → Prop) : Prop:=
 match op,x with
 | .neg,.c (.int k n)=>WrB k (0 - n) fun n=>K (.c (.int k n))
 | .not,.c (.bool z)=>match z with
  | true=>K (.c (.bool false))
  | false=>K (.c (.bool true))
 | _,_=>False
def Zro (tab : Tab) (src dst : TypeId) (x : V) (K : V → Prop) : Prop:=
 match tab src,(tab dst).map Ty.kind,x with
 | some _,some (.int k),.c (.int _ n)=>WrB k n fun n=>K (.c (.int k n))
 | _,_,_=>False
def Zqs (τ : Ty) (row : List V) (j : Nat) (K : V → Prop) : Prop:=
 match τ.agg with
 | true=>match Nat.ble (j + τ.size) row.length with
  | true=>Zl9 ((row.drop j).take τ.size) fun xs=>K (.agg xs)
  | false=>False
 | false=>ZkD row[j]? K
def Zln (tab : Tab) (h : List (Nat × B)) (t : TypeId) (a : V) (K : V → Prop) : Prop:=
 match tab t with
 | some τ=>match a with
  | .p n sz i j=>match hAt h n with
   | some (.rows sz' r)=>match Nat.beq sz' sz with
    | true=>ZkD r[i]? fun row=>Zqs τ row j fun v=>ZbI v K
    | false=>False
   | some (.dat sz' r)=>match Nat.beq sz' sz with
    | true=>GetB r i fun row=>Zqs τ (row.map D.toV) j fun v=>ZbI v K
    | false=>False
   | _=>False
  | .q row j=>Zqs τ (row.map D.toV) j fun v=>ZbI v K
  | _=>False
 | none=>False
def ZeN (x : V) (K : List V → Prop) : Prop:=
 match x with
 | .agg xs=>K xs
 | .un=>False
 | .tup _=>False
 | .c v=>match v.oneCell' with
  | true=>K [.c v]
  | false=>False
 | x=>K [x]
def okK (c : Bool) (K : Prop) : Prop:=
 match c with
 | true=>K
 | false=>False
def Zhv (tab : Tab) (h : List (Nat × B)) (t : TypeId) (a x : V) (K : List (Nat × B) → Prop) : Prop:=
 match tab t with
 | some τ=>match a with
  | .p n sz i j=>match hAt h n with
   | some (.rows sz' r)=>okK (Nat.beq sz' sz) (ZkD r[i]? fun row=>ZeN x fun xs=>
    okK (Nat.beq xs.length τ.size) (okK (Nat.ble (j + xs.length) row.length) (okK (xs.all V.leaf)
     (YC (ZU row j xs) fun row'=>YC (r.set i row') fun r'=>Zc2 h n (.rows sz r') K))))
   | some (.dat sz' r)=>okK (Nat.beq sz' sz) (GetB r i fun row=>ZeN x fun xs=>ZkD (ZoN xs) fun ds=>
    okK (Nat.beq ds.length τ.size) (okK (Nat.ble (j + ds.length) row.length)
     (YC (ZU row j ds) fun row'=>Zc2 h n (.dat sz (r.set i row')) K)))
   | _=>False
  | _=>False
 | none=>False
def Zjs (tab : Tab) (s : TypeId) (f : Nat) (K : Nat → Ty → Prop) : Prop:=
 match tab s with
 | some τ=>match τ.kind with
  | .struct fs=>match fs[f]? with
   | some p=>match tab p.2 with
    | some τ'=>K p.1 τ'
    | none=>False
   | none=>False
  | _=>False
 | none=>False
def ZcV (tab : Tab) (s : TypeId) (x : V) (f : Nat) (K : V → Prop) : Prop:=
 Zjs tab s f fun o τ=>match Nat.beq τ.size 0 with
  | true=>False
  | false=>match x with
   | .p n sz i j=>K (.p n sz i (j + o))
   | .q row j=>K (.q row (j + o))
   | _=>False
def Zeb (tab : Tab) (s : TypeId) (x : V) (f : Nat) (K : V → Prop) : Prop:=
 Zjs tab s f fun o τ=>match x with
  | .agg xs=>Zqs τ xs o fun v=>ZbI v K
  | _=>False
def ZjY (tab : Tab) (t : TypeId) (K : TK → Ty → Prop) : Prop:=
 match tab t with
 | some τ=>match τ.kind with
  | .slice e=>match tab e with
   | some ε=>K (.slice e) ε
   | none=>False
  | .array n e=>match tab e with
   | some ε=>K (.array n e) ε
   | none=>False
  | _=>False
 | none=>False
def ZcZ (tab : Tab) (t : TypeId) (x ix : V) (K : V → Prop) : Prop:=
 ZjY tab t fun k ε=>match ix with
  | .c (.int _ i)=>match k with
   | .slice _=>match x with
    | .sl n sz off len=>okK (Nat.beq ε.size sz) (AtB i len fun m=>K (.p n sz (off + m) 0))
    | .ac n sz len=>okK (Nat.beq ε.size sz) (AtB i len fun m=>K (.p n sz m 0))
    | .lst sz rows _=>okK (Nat.beq ε.size sz) (IdxB rows i fun row=>K (.q row 0))
    | _=>False
   | .array m _=>match x with
    | .p n sz a j=>AtB i m fun k=>K (.p n sz a (j + k * ε.size))
    | _=>False
   | _=>False
  | _=>False
def Zno (tab : Tab) (t : TypeId) (x ix : V) (K : V → Prop) : Prop:=
 ZjY tab t fun k ε=>match ix with
  | .c (.int _ i)=>match k with
   | .array m _=>match x with
    | .agg xs=>AtB i m fun k=>Zqs ε xs (k * ε.size) fun v=>ZbI v K
    | _=>False
   | _=>False
  | _=>False
def Ze6 (o : Option V) (K : Option Int → Prop) : Prop:=
 match o with
 | none=>K none
 | some (.c (.int _ i))=>K (some i)
 | _=>False
def ZmE (tab : Tab) (t : TypeId) (x : V) (lo hi mx : Option V) (K : V → Prop) : Prop:=
 ZjY tab t fun k ε=>match k with
  | .slice _=>Ze6 lo fun lo=>Ze6 hi fun hi=>Ze6 mx fun mx=>match mx with
   | none=>match x with
    | .sl n sz off len=>okK (Nat.beq ε.size sz) (SlB len lo hi fun a b=>K (.sl n sz (off + a) (b - a)))
    | .ac n sz len=>okK (Nat.beq ε.size sz) (SlB len lo hi fun a b=>K (.sl n sz a (b - a)))
    | .lst sz rows cl=>okK (Nat.beq ε.size sz) (SlB rows.length lo hi fun a b=>K (.lst sz ((rows.drop a).take (b - a)) (cl && decide (b = rows.length))))
    | .c (.slice none 0 0)=>SlB 0 lo hi fun _ _=>K (.c (.slice none 0 0))
    | _=>False
   | some m=>CB (hi = some m) (match x with
    | .lst sz rows cl=>okK (Nat.beq ε.size sz) (SlB rows.length lo hi fun a b=>K (.lst sz ((rows.drop a).take (b - a)) true))
    | .c (.slice none 0 0)=>SlB 0 lo hi fun _ _=>K (.c (.slice none 0 0))
    | _=>False)
  | _=>False
def Zli (h : List (Nat × B)) (sz : Nat) (x : V) (K : List (List D) → Prop) (N : Prop) : Prop:=
 match x with
 | .lst sz' rows _=>okK (Nat.beq sz' sz) (K rows)
 | .c (.slice none 0 0)=>K []
 | .ac n sz' len=>okK (Nat.beq sz' sz) (match hAt h n with
  | some (.dat s r)=>okK (Nat.beq s sz') (CB (len = r.length) (K r))
  | _=>False)
 | .sl n sz' off len=>okK (Nat.beq sz' sz) (match hAt h n with
  | some (.dat s r)=>okK (Nat.beq s sz') (CB (off + len ≤ r.length) (K ((r.drop off).take len)))
  | _=>N)
 | _=>False
def Zid (tab : Tab) (nm : Nat) (h : List (Nat × B)) (t : TypeId) (s x : V) (K : V → List (Nat × B) → Prop) : Prop:=
 ZjY tab t fun k ε=>match k with
  | .slice _=>okK (Nat.ble ε.bytes 4096) (Zli h ε.size x (fun src=>
   match s with
   | .c (.slice none 0 0)=>CB (src.length < 2147483648) (Zc2 h nm (.dat ε.size src) fun h=>K (.ac nm ε.size src.length) h)
   | .lst sz rows cl=>okK (Nat.beq sz ε.size) (CB (cl = true ∧ rows.length + src.length < 2147483648 ∧ (src = [] → rows = [])) (Zc2 h nm (.dat sz (rows ++ src)) fun h=>K (.ac nm sz (rows.length + src.length)) h))
   | .ac n sz len=>okK (Nat.beq sz ε.size) (match hAt h n with
    | some (.dat s' r)=>okK (Nat.beq s' sz) (CB (len = r.length ∧ len + src.length < 2147483648) (ZlQ h n fun h=>Zc2 h nm (.dat sz (r ++ src)) fun h=>K (.ac nm sz (len + src.length)) h))
    | _=>False)
   | .sl n sz off len=>okK (Nat.beq sz ε.size) (match hAt h n with
    | some (.dat s' r)=>okK (Nat.beq s' sz) (CB (r ≠ [] ∧ off + len ≤ r.length ∧ len + src.length < 2147483648) (ZlQ h n fun h=>Zc2 h nm (.dat sz ((r.drop off).take len ++ src)) fun h=>K (.sl nm sz 0 (len + src.length)) h))
    | _=>False)
   | _=>False)
   (match x with
   | .sl n' sz' off' len'=>match hAt h n' with
    | some (.rows s'' r')=>okK (Nat.beq s'' sz') (okK (Nat.ble (off' + len') r'.length) (YC ((r'.drop off').take len') fun src=>
     okK (src.all fun row=>Nat.beq row.length ε.size && row.all V.leaf) (match s with
     | .c (.slice none 0 0)=>CB (src.length < 2147483648 ∧ src ≠ []) (Zc2 h nm (.rows ε.size src) fun h=>Zty src 0 fun m=>K (.sl nm ε.size 0 m) h)
     | .sl n sz off len=>okK (Nat.beq sz ε.size) (match hAt h n with
      | some (.rows s' r)=>okK (Nat.beq s' sz) (CB (off + len ≤ r.length ∧ len + src.length < 2147483648) (ZlQ h n fun h=>YC ((r.drop off).take len ++ src) fun r=>Zc2 h nm (.rows sz r) fun h=>K (.sl nm sz 0 (len + src.length)) h))
      | _=>False)
     | _=>False)))
    | _=>False
   | _=>False))
  | _=>False
def ZqO (tab : Tab) (h : List (Nat × B)) (t : TypeId) (x : V) (K : V → Prop) : Prop:=
 match (tab t).map Ty.kind with
 | some (.slice _)=>match x with
  | .sl _ _ _ len=>K (V.int (len : Int))
  | .ac _ _ len=>K (V.int (len : Int))
  | .lst _ rows _=>K (V.int (rows.length : Int))
  | .c (.slice none 0 0)=>K (V.int 0)
  | _=>False
 | some (.map _ _)=>match x with
  | .mp n=>match hAt h n with
   | some (.map es)=>K (V.int (es.length : Int))
   | _=>False
  | _=>False
 | _=>False
def ZtG (mn : Bool) (x y : V) (K : V → Prop) : Prop:=
 match x,y with
 | .c (.int k a),.c (.int k' b)=>ZkR k k' (match mn with
  | true=>K (.c (.int k (if b < a then b else a)))
  | false=>K (.c (.int k (if a < b then b else a))))
 | _,_=>False
def ZlX (tab : Tab) (nm : Nat) (t : List V) (h : List (Nat × B)) (f : Builtin) (args : List Operand) (tys : List TypeId) (K : V → List (Nat × B) → Prop) : Prop:=
 match f,args,tys with
 | .len,[x],[ty]=>evK t x fun x=>ZqO tab h ty x fun v=>K v h
 | .append,[s,x],[ty,ty']=>okK (Zif tab ty') (evK t s fun s=>evK t x fun x=>Zid tab nm h ty s x K)
 | .min,[x,y],_=>evK t x fun x=>evK t y fun y=>ZtG true x y fun v=>K v h
 | .max,[x,y],_=>evK t x fun x=>evK t y fun y=>ZtG false x y fun v=>K v h
 | _,_,_=>False
def Zo8 (t : List V) (o : Option Operand) (K : Option V → Prop) : Prop:=
 match o with
 | none=>K none
 | some x=>evK t x fun x=>K (some x)
def opK (tab : Tab) (nm : Nat) (t : List V) (h : List (Nat × B)) (op : Op) (K : V → List (Nat × B) → Prop) : Prop:=
 match op with
 | .move x=>evK t x fun v=>ZbI v fun v=>K v h
 | .assign x=>evK t x fun v=>ZbI v fun v=>K v h
 | .alloc ty=>ZkD (tab ty) fun τ=>Zl9 (τ.zero.map V.c) fun cs=>Zc2 h nm (.rows τ.size [cs]) fun h=>K (.p nm τ.size 0 0) h
 | .box _ x=>evK t x fun v=>ZeN v fun xs=>Zty xs 0 fun n=>Zc2 h nm (.rows n [xs]) fun h=>K (.p nm n 0 0) h
 | .build ty parts=>ZrJ t parts.toList fun ps=>ZkD (ZgC tab ty ps) fun v=>ZbI v fun v=>K v h
 | .buildSlice ty len parts=>ZrJ t parts.toList fun ps=>ZkD (Zy tab ty) fun ε=>okK (Nat.ble (len * ε.size) 16777216)
  (ZkD (ZbV (fun i=>some (i * ε.size,ε.size)) (Z3 len (ε.zero.map V.c)) ps) fun cs=>match ZrH (ZaW ε.size len cs) with
   | some ds=>YC ds fun ds=>K (.lst ε.size ds true) h
   | none=>YC (ZaW ε.size len cs) fun rs=>Zc2 h nm (.rows ε.size rs) fun h=>K (.sl nm ε.size 0 len) h)
 | .load ty a=>evK t a fun a=>Zln tab h ty a fun v=>K v h
 | .store ty a x=>evK t a fun a=>evK t x fun x=>Zhv tab h ty a x fun h=>K .un h
 | .nilCheck x=>evK t x fun v=>match v with
  | .p n sz i j=>K (.p n sz i j) h
  | .q row j=>K (.q row j) h
  | .ifc ty x=>K (.ifc ty x) h
  | .fn (.func f) a b=>K (.fn (.func f) a b) h
  | _=>False
 | .binOp op ty x y _=>evK t x fun vx=>evK t y fun vy=>Zmi ((tab ty).map Ty.kind) op y vx vy fun v=>K v h
 | .unOp op _ x=>evK t x fun v=>unK op v fun v=>K v h
 | .convert src dst x=>evK t x fun v=>Zro tab src dst v fun v=>K v h
 | .makeInterface ty x=>evK t x fun v=>match (tab ty).map Ty.kind with
  | none=>False
  | some .iface=>False
  | _=>ZbI v fun v=>K (.ifc ty v) h
 | .makeFunc fn first cap=>ZpP t first.toList fun a=>ZpP t cap.toList fun c=>K (.fn fn a c) h
 | .slice ty x lo hi mx=>evK t x fun x=>Zo8 t lo fun lo=>Zo8 t hi fun hi=>Zo8 t mx fun mx=>ZmE tab ty x lo hi mx fun v=>K v h
 | .fieldAddr s x f=>evK t x fun x=>ZcV tab s x f fun v=>K v h
 | .field s x f=>evK t x fun x=>Zeb tab s x f fun v=>K v h
 | .indexAddr ty x i=>evK t x fun x=>evK t i fun i=>ZcZ tab ty x i fun v=>K v h
 | .index ty x i=>evK t x fun x=>evK t i fun i=>Zno tab ty x i fun v=>K v h
 | .extract x i=>evK t x fun x=>match x with
  | .tup xs=>ZkD xs[i]? fun v=>ZbI v fun v=>K v h
  | _=>False
 | .call ⟨.builtin f,args,tys⟩=>ZlX tab nm t h f args.toList tys.toList K
 | _=>False
def Zl7 (dst : Option Nat) (v : V) (t : List V) (K : List V → Prop) : Prop:=
 match dst with
 | none=>K t
 | some d=>ZpE t d v K
def ZdU (ops : Array Oper) (g : Option (Nat × Bool)) (t : List V) (X Y : List V → Prop) : Prop:=
 match g with
 | none=>X t
 | some (j,want)=>match (ops[j]?).bind (·.dst) with
  | some d=>match tAt t d with
   | .c (.bool x)=>match want with
    | true=>brK x (ZpE t d (.c (.bool true)) X) (ZpE t d (.c (.bool false)) Y)
    | false=>brK x (ZpE t d (.c (.bool true)) Y) (ZpE t d (.c (.bool false)) X)
   | .c (.tuple _)=>Y t
   | _=>False
  | none=>False
def Ztz (v : V) (K : FuncId → List V → List V → Prop) : Prop:=
 match v with
 | .fn (.func f) first cap=>K f first cap
 | _=>False
inductive NilB (p : Prop) (K : Bool → Prop) : Prop
 | mk (h : ∀ z : Bool,(z = true → p) → K z) : NilB p K
def Zun (neg z : Bool) (K : V → Prop) : Prop:=
 match z with
 | true=>match neg with
  | true=>K (.c (.bool false))
  | false=>K (.c (.bool true))
 | false=>match neg with
  | true=>K (.c (.bool true))
  | false=>K (.c (.bool false))
inductive OpB (P : Program) (op : Op) (t : List V) (h : List (Nat × B)) (b : Nat) (K : V → List (Nat × B) → Prop) : Prop
 | mk (run : AOp P op (evS (tAt t)) (hAt h) (Lt b) b fun v h'=>∃ l,h' = hAt l ∧ K v l) : OpB P op t h b K
inductive DOpB (P : Program) (op : Op) (t : List V) (h : List (Nat × B)) (b : Nat) (K : V → List (Nat × B) → Dyn → Prop) : Prop
 | mk (d : Dyn) (v : V) (u : List (Nat × Option B)) (l : List (Nat × B)) (hx : d.x = false) (run : LOp P op (evS (tAt t)) d b u v (hAt h)) (hl : hAt l = Q1 (hAt h) u) (k : K v l d) : DOpB P op t h b K
def Zu4 (x : V) : Bool:=
 match x with
 | .agg _=>true
 | _=>false
def sxV (x : V) : Bool:=
 match x with
 | .sx _ _ _ _ _=>true
 | _=>false
def ZuZ (x : V) : Bool:=
 match x with
 | .c (.int _ _)=>true
 | _=>false
def nmV (x : V) : Bool:=
 match x with
 | .sx _ _ _ _ _=>true
 | .sl _ _ _ _=>true
 | .ac _ _ _=>true
 | _=>false
def ZuY (x : V) : Bool:=
 match x with
 | .fn (.func _) _ _=>false
 | _=>true
def ZuL (t : List V) (op : Op) : Bool:=
 match op with
 | .move _=>false
 | .assign _=>false
 | .pick _ _ _=>false
 | .alloc _=>false
 | .box _ _=>false
 | .build _ _=>false
 | .buildSlice _ _ _=>false
 | .load _ _=>false
 | .store _ _ _=>false
 | .nilCheck _=>false
 | .binOp _ _ x _ _=>Zu4 (evS (tAt t) x)
 | .unOp _ _ _=>false
 | .convert _ _ _=>false
 | .makeInterface _ _=>false
 | .makeFunc _ _ _=>false
 | .slice _ x _ _ mx=>match mx with
  | none=>sxV (evS (tAt t) x)
  | some _=>nmV (evS (tAt t) x)
 | .fieldAddr _ _ _=>false
 | .field _ _ _=>false
 | .indexAddr _ _ _=>false
 | .index _ _ _=>false
 | .extract _ _=>false
 | .call ⟨.builtin f,args,_⟩=>match f with
  | .len=>match args.toList with
   | x :: _=>sxV (evS (tAt t) x)
   | _=>false
  | .min=>false
  | .max=>false
  | .append=>match args.toList with
   | x :: y :: _=>match sxV (evS (tAt t) x) with
    | true=>true
    | false=>ZuZ (evS (tAt t) y)
   | _=>false
  | _=>true
 | .call ⟨.value f,_,_⟩=>ZuY (evS (tAt t) f)
 | _=>true
def ZpG (P : Program) (tab : Tab) (nm : Nat) (t : List V) (h : List (Nat × B)) (op : Op) (K : V → List (Nat × B) → Prop) : Prop:=
 match op with
 | .pick c x y=>evK t c fun c=>match c with
  | .c (.bool z)=>brK z (evK t x fun v=>ZbI v fun v=>K v h) (evK t y fun v=>ZbI v fun v=>K v h)
  | _=>False
 | .call ⟨.value f,args,_⟩=>evK t f fun f=>ZpP t args.toList fun args=>Ztz f fun f first cap=>YC (first ++ (args ++ cap)) fun args=>CallB P f args h nm fun v h=>ZbI v fun v=>K v h
 | .binOp bo ty x y ty'=>evK t x fun vx=>match Zs7 ((tab ty).map Ty.kind) bo y vx with
  | some (neg,p)=>NilB p fun z=>Zun neg z fun v=>K v h
  | none=>opK tab nm t h (.binOp bo ty x y ty') K
 | op=>opK tab nm t h op K
def Zlz (P : Program) (tab : Tab) (nm : Nat) (t : List V) (h : List (Nat × B)) (op : Op) (K : V → List (Nat × B) → Prop) : Prop:=
 match ZuL t op with
 | true=>OpB P op t h nm fun v h=>ZbI v fun v=>K v h
 | false=>ZpG P tab nm t h op K
abbrev ZsN:=Nat → List V → List (Nat × B) → (List V → List (Nat × B) → Nat → Prop) → Prop
def Ztp : ZsN:=fun b t h K=>K t h b
def Zqx (P : Program) (tab : Tab) (ops : Array Oper) (o : Oper) (os : List Oper) (ih : ZsN) : ZsN:=fun b t h K=>
 ZuB b fun b'=>ZdU ops o.guard t (fun t=>Zlz P tab b t h o.op fun v h=>Zl7 o.dst v t fun t=>ih b' t h K) (fun t=>Zl7 o.dst (.c (.tuple #[])) t fun t=>ih b' t h K)
noncomputable def ZrM (P : Program) (tab : Tab) (ops : Array Oper) (os : List Oper) : ZsN:=List.rec (motive:=fun _=>ZsN) Ztp (Zqx P tab ops) os
def Zuh (nm : Nat) (t : List V) (op : Op) (K : Dyn → Prop) : Prop:=
 match YS nm (evS (tAt t)) op with
 | ⟨hr,hw,nw,x⟩=>YC hr fun hr=>YC hw fun hw=>YC nw fun nw=>match x with
  | true=>False
  | false=>K ⟨hr,hw,nw,false⟩
def ZlK (P : Program) (tab : Tab) (nm : Nat) (t : List V) (h : List (Nat × B)) (op : Op) (K : V → List (Nat × B) → Dyn → Prop) : Prop:=
 match op with
 | .pick c x y=>evK t c fun c=>match c with
  | .c (.bool z)=>brK z (evK t x fun v=>ZbI v fun v=>K v h ⟨[],[],[],false⟩) (evK t y fun v=>ZbI v fun v=>K v h ⟨[],[],[],false⟩)
  | _=>False
 | .call ⟨.value f,args,_⟩=>evK t f fun f=>ZpP t args.toList fun args=>Ztz f fun f first cap=>YC (first ++ (args ++ cap)) fun args=>DCallB P f args h nm fun v h d=>ZbI v fun v=>K v h d
 | op=>Zuh nm t op fun d=>opK tab nm t h op fun v h=>K v h d
def Zjh (P : Program) (tab : Tab) (nm : Nat) (t : List V) (h : List (Nat × B)) (op : Op) (K : V → List (Nat × B) → Dyn → Prop) : Prop:=
 match ZuL t op with
 | true=>DOpB P op t h nm fun v h d=>ZbI v fun v=>K v h d
 | false=>ZlK P tab nm t h op K
abbrev Zmu:=Nat → List V → List (Nat × B) → List Dyn → (List Dyn → List V → List (Nat × B) → Nat → Prop) → Prop
def ZpY : Zmu:=fun b t h acc K=>K acc t h b
def Zow (P : Program) (tab : Tab) (ops : Array Oper) (o : Oper) (os : List Oper) (ih : Zmu) : Zmu:=fun b t h acc K=>
 ZuB b fun b'=>ZdU ops o.guard t (fun t=>Zjh P tab b t h o.op fun v h d=>Zl7 o.dst v t fun t=>ih b' t h (acc ++ [d]) K)
  (fun t=>Zl7 o.dst (.c (.tuple #[])) t fun t=>ih b' t h (acc ++ [⟨[],[],[],false⟩]) K)
noncomputable def Zpf (P : Program) (tab : Tab) (ops : Array Oper) (os : List Oper) : Zmu:=List.rec (motive:=fun _=>Zmu) ZpY (Zow P tab ops) os
inductive LoopB (P : Program) (tab : Tab) (N : Nat) (c : Code) (t : List V) (h : List (Nat × B)) (b : Nat) (K : Ex → List V → List (Nat × B) → Nat → Prop) : Prop
 | mk (hb : N ≤ b) (run : AWP P (Lt N) (.loop c) (fun x s=>∃ t' h' b',s = ⟨tAt t',hAt h',b',t'.length⟩ ∧ t'.length = t.length ∧ N ≤ b' ∧ K x t' h' b') ⟨tAt t,hAt h,b,t.length⟩) : LoopB P tab N c t h b K
inductive CodeB (P : Program) (N : Nat) (c : Code) (t : List V) (h : List (Nat × B)) (b : Nat) (K : Ex → List V → List (Nat × B) → Nat → Prop) : Prop
 | mk (hb : N ≤ b) (run : AWP P (Lt N) c (fun x s=>∃ t' h' b',s = ⟨tAt t',hAt h',b',t'.length⟩ ∧ t'.length = t.length ∧ N ≤ b' ∧ K x t' h' b') ⟨tAt t,hAt h,b,t.length⟩) : CodeB P N c t h b K
abbrev ZbF:=List V → List (Nat × B) → Nat → (Ex → List V → List (Nat × B) → Nat → Prop) → Prop
def ZsF : ZbF:=fun t h b K=>K .normal t h b
inductive StepB (P : Program) (tab : Tab) (N : Nat) (c : Code) (t : List V) (h : List (Nat × B)) (b : Nat) (K : Ex → List V → List (Nat × B) → Nat → Prop) : Prop
 | mk (run : N ≤ b → AWP P (Lt N) c (fun x s=>∃ t' h' b',s = ⟨tAt t',hAt h',b',t'.length⟩ ∧ t'.length = t.length ∧ N ≤ b' ∧ K x t' h' b') ⟨tAt t,hAt h,b,t.length⟩) : StepB P tab N c t h b K
def ZuK : List Oper → Bool
 | []=>false
 | o :: l=>match o.guard with
  | some _=>true
  | none=>ZuK l
def Zts (P : Program) (tab : Tab) (ops : Array Oper) (draw : Bool) : ZbF:=fun t h b K=>
 match ZdV ops.toList with
 | false=>False
 | true=>match draw with
  | false=>ZrM P tab ops ops.toList b t h fun t h b=>K .normal t h b
  | true=>Zpf P tab ops ops.toList b t h [] fun ds t h b=>OkB (okD ops ds) (K .normal t h b)
def Zip (P : Program) (tab : Tab) (N : Nat) (id : Nat) (ops : Array Oper) (draw : Bool) : ZbF:=fun t h b K=>
 match ZuK ops.toList with
 | true=>StepB P tab N (.region id ops draw) t h b K
 | false=>Zts P tab ops draw t h b K
def ZuO (c d : ZbF) : ZbF:=fun t h b K=>c t h b fun x t h b=>match x with
 | .normal=>d t h b K
 | .exit i=>K (.exit i) t h b
 | .ret=>K .ret t h b
def Zuk (P : Program) (tab : Tab) (N : Nat) (x : Operand) (c d : Code) : ZbF:=fun t h b K=>StepB P tab N (.cond x c d) t h b K
def ZrS (id : Nat) (c : ZbF) : ZbF:=fun t h b K=>c t h b fun x t h b=>match x with
 | .exit k=>match Nat.beq k id with
  | true=>K .normal t h b
  | false=>K (.exit k) t h b
 | .normal=>K .normal t h b
 | .ret=>K .ret t h b
def Zue (i : Nat) : ZbF:=fun t h b K=>K (.exit i) t h b
def ZuT : ZbF:=fun t h b K=>K .ret t h b
def Zt6 (P : Program) (tab : Tab) (N : Nat) (c : Code) : ZbF:=fun t h b K=>LoopB P tab N c t h b K
def ZsC (P : Program) (N : Nat) (f : Operand) (ps : Array Tmp) (c d : Code) : ZbF:=fun t h b K=>CodeB P N (.rangeFunc f ps c d) t h b K
def cNo : ZbF:=fun _ _ _ _=>False
noncomputable def Zcz (P : Program) (tab : Tab) (N : Nat) (c : Code) : ZbF:=
 Code.rec (motive:=fun _=>ZbF) ZsF (fun id ops draw=>Zip P tab N id ops draw) (fun _ _ c d=>ZuO c d) (fun x c d _ _=>Zuk P tab N x c d) (fun id _ c=>ZrS id c) (fun c _=>Zt6 P tab N c)
  (fun f ps c d _ _=>ZsC P N f ps c d) Zue (fun _ c=>c) (fun _=>ZsF) (fun _=>cNo) ZuT (fun _=>cNo) c
abbrev ZsX:=(List V → Prop) → Prop
def Zsa : ZsX:=fun K=>K []
def Zrp (tab : Tab) (t : List V) (h : List (Nat × B)) (r : ResultVar) (rs : List ResultVar) (ih : ZsX) : ZsX:=fun K=>
 match r with
 | .tmp i=>ZbI (tAt t i) fun x=>ih fun xs=>K (x :: xs)
 | .cell i T=>Zln tab h T (tAt t i) fun x=>ih fun xs=>K (x :: xs)
noncomputable def Ztt (tab : Tab) (t : List V) (h : List (Nat × B)) (rs : List ResultVar) : ZsX:=List.rec (motive:=fun _=>ZsX) Zsa (Zrp tab t h) rs
def Zt9 (xs : List V) (K : V → Prop) : Prop:=
 match xs with
 | [x]=>K x
 | xs=>K (.tup xs)
noncomputable def bodyK (P : Program) (tab : Tab) (N : Nat) (c : Code) (n : Nat) (rs : List ResultVar) (args : List V) (h : List (Nat × B)) (b : Nat) (K : V → List (Nat × B) → Nat → Prop) : Prop:=
 fillK args n fun t=>Zcz P tab N c t h b fun x t h b=>match x with
  | .exit _=>False
  | _=>Ztt tab t h rs fun xs=>Zt9 xs fun v=>K v h b
 where
 fillK : List V → Nat → (List V → Prop) → Prop
  | x :: l,n + 1,K=>fillK l n fun t=>K (x :: t)
  | [],n + 1,K=>fillK [] n fun t=>K (.un :: t)
  | [],0,K=>K []
  | _ :: _,0,_=>False
inductive RetB (h : List (Nat × B)) (v r : V) : Prop
 | same (e : v = r) : RetB h v r
 | frz (hf : Frz (hAt h) r v) : RetB h v r
end Go.Proofs.YtdjnjchpgccbiaaGreat.Abs
