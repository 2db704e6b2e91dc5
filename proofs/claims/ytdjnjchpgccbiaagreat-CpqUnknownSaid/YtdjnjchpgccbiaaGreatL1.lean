/- The abstract machine, part 1: values without addresses, named blocks, and what it means that a world represents them. -/
import Derived.Test.YtdjnjchpgccbiaaGreatRows
import Derived.WalkKit
import Derived.RangeFuncWrites
import Derived.RangeFuncRecord
import Derived.RangeFuncLeaves
namespace Go.Proofs.YtdjnjchpgccbiaaGreat.Abs
inductive D where
 | c (v : Value)
 | lst (sz : Nat) (rows : List (List D))
inductive V where
 | un
 | c (v : Value)
 | lst (sz : Nat) (rows : List (List D)) (clip : Bool)
 | sl (n sz off len : Nat)
 | ac (n sz len : Nat)
 | sx (n sz off len cap : Nat)
 | p (n sz i j : Nat)
 | q (row : List D) (j : Nat)
 | agg (xs : List V)
 | tup (xs : List V)
 | fn (f : Fn) (first cap : List V)
 | ifc (t : TypeId) (x : V)
 | mp (n : Nat)
def D.toV : D → V
 | .c v=>.c v
 | .lst sz rows=>.lst sz rows false
inductive B where
 | rows (sz : Nat) (r : List (List V))
 | dat (sz : Nat) (r : List (List D))
 | map (es : List (Value × V))
abbrev Hp:=Nat → Option B
def B.real : B → Bool
 | .dat _ []=>false
 | _=>true
def YG (r : List (List D)) : List (List V):=r.map fun row=>row.map D.toV
def B.see : B → B
 | .dat sz r=>.rows sz (YG r)
 | b=>b
def upd {α : Type} (f : Nat → α) (n : Nat) (v : α) : Nat → α:=fun m=>if m = n then v else f m
theorem Zb {α : Type} (f : Nat → α) (n : Nat) (v : α) : upd f n v n = v:=if_pos rfl
theorem Zi {α : Type} (f : Nat → α) (n m : Nat) (v : α) (h : m ≠ n) : upd f n v m = f m:=if_neg h
abbrev Nm:=Nat → Prop
def Nm.le (m m' : Nm) : Prop:=∀ n,m n → m' n
def Nm.add (m : Nm) (k : Nat) : Nm:=fun n=>m n ∨ n = k
theorem Nm.le_refl (m : Nm) : m.le m:=fun _ h=>h
theorem Nm.le_add (m : Nm) (k : Nat) : m.le (m.add k):=fun _ h=>.inl h
theorem Nm.le_trans {a b c : Nm} (h : a.le b) (h' : b.le c) : a.le c:=fun n x=>h' n (h n x)
theorem Nm.ne {m : Nm} {k n : Nat} (h : ¬ m k) (hn : m n) : n ≠ k:=fun e=>h (e ▸ hn)
structure St where
 t : Nat → V
 h : Hp
 b : Nat
 n : Nat
def Lt (b : Nat) : Nm:=fun k=>k < b
inductive V.Below (m : Nm) : V → Prop
 | un : V.Below m .un
 | c (v : Value) : V.Below m (.c v)
 | lst (sz : Nat) (rows : List (List D)) (clip : Bool) : V.Below m (.lst sz rows clip)
 | sl (n sz off len : Nat) (h : m n) : V.Below m (.sl n sz off len)
 | ac (n sz len : Nat) (h : m n) : V.Below m (.ac n sz len)
 | sx (n sz off len cap : Nat) (h : m n) : V.Below m (.sx n sz off len cap)
 | p (n sz i j : Nat) (h : m n) : V.Below m (.p n sz i j)
 | q (row : List D) (j : Nat) : V.Below m (.q row j)
 | agg (xs : List V) (h : ∀ x ∈ xs,V.Below m x) : V.Below m (.agg xs)
 | tup (xs : List V) (h : ∀ x ∈ xs,V.Below m x) : V.Below m (.tup xs)
 | fn (f : Fn) (first cap : List V) (h : ∀ x ∈ first,V.Below m x) (h' : ∀ x ∈ cap,V.Below m x) : V.Below m (.fn f first cap)
 | ifc (t : TypeId) (x : V) (h : V.Below m x) : V.Below m (.ifc t x)
 | mp (n : Nat) (h : m n) : V.Below m (.mp n)
theorem V.Below.mono {m m' : Nm} (hm : m.le m') {x : V} (h : x.Below m) : x.Below m':=by
 induction h with
 | un=>exact .un
 | c v=>exact .c v
 | lst sz rows clip=>exact .lst ..
 | sl n sz off len h=>exact .sl _ _ _ _ (hm n h)
 | ac n sz len h=>exact .ac _ _ _ (hm n h)
 | sx n sz off len cap h=>exact .sx _ _ _ _ _ (hm n h)
 | p n sz i j h=>exact .p _ _ _ _ (hm n h)
 | q row j=>exact .q ..
 | agg xs h ih=>exact .agg _ ih
 | tup xs h ih=>exact .tup _ ih
 | fn f a b h h' ih ih'=>exact .fn _ _ _ ih ih'
 | ifc t x h ih=>exact .ifc _ _ ih
 | mp n h=>exact .mp _ (hm n h)
theorem D.toV_below (m : Nm) (d : D) : d.toV.Below m:=by cases d <;> constructor
def B.Below (m : Nm) : B → Prop
 | .rows _ r=>∀ row ∈ r,∀ x ∈ row,x.Below m
 | .dat _ _=>True
 | .map es=>∀ e ∈ es,e.2.Below m
theorem ZJ (m : Nm) (r : List (List D)) : ∀ row ∈ YG r,∀ x ∈ row,x.Below m:=by
 intro row hr x hx
 obtain ⟨rd,_,rfl⟩:=List.mem_map.1 hr
 obtain ⟨d,_,rfl⟩:=List.mem_map.1 hx
 exact D.toV_below m d
theorem B.Below.see {m : Nm} {b : B} (h : b.Below m) : b.see.Below m:=by
 cases b with
 | dat sz r=>exact ZJ m r
 | _=>exact h
theorem B.Below.mono {m m' : Nm} (hm : m.le m') {b : B} (h : b.Below m) : b.Below m':=by
 cases b with
 | rows sz r=>exact fun row hr x hx=>(h row hr x hx).mono hm
 | dat sz r=>trivial
 | map es=>exact fun e he=>(h e he).mono hm
inductive RepD (A : Nat → Prop) (w : World) : D → Value → Prop
 | c (v : Value) (h1 : v.oneCell' = true) : RepD A w (.c v) v
 | emp (sz : Nat) (a : Option Addr) (cap : Nat) : RepD A w (.lst sz []) (.slice a 0 cap)
 | lst (sz : Nat) (rows : List (List D)) (b o cap : Nat) (cell : Nat → Nat → Value) (hcap : rows.length ≤ cap) (hb : b < w.heap.size) (hA : ¬ A b)
  (hw : ∀ row ∈ rows,row.length = sz)
  (hc : ∀ (i : Nat) (row : List D) (j : Nat) (d : D),rows[i]? = some row → row[j]? = some d → w.cell? ⟨b,o + (i * sz + j),none⟩ = some (cell i j))
  (hd : ∀ (i : Nat) (row : List D) (j : Nat) (d : D),rows[i]? = some row → row[j]? = some d → RepD A w d (cell i j)) :
  RepD A w (.lst sz rows) (.slice (some ⟨b,o,none⟩) rows.length cap)
structure Goes (A : Nat → Prop) (w w' : World) : Prop where
 size : w.heap.size ≤ w'.heap.size
 same : ∀ b,b < w.heap.size → ¬ A b → w'.heap[b]? = w.heap[b]?
 shape : ∀ (b : Nat) (arr : Array Value) (T : TypeId) (fz : Nat × Nat),w.heap[b]? = some (.cells arr T fz) → ∃ arr' : Array Value,w'.heap[b]? = some (.cells arr' T fz) ∧ arr'.size = arr.size
 mapx : ∀ (b : Nat) (es : Array MapEntry) (k : Nat),w.heap[b]? = some (.map es k) → ∃ es' k',w'.heap[b]? = some (.map es' k')
 env : w'.os = w.os ∧ w'.output = w.output
 frz : ∀ a,w'.frozen? a = w.frozen? a
theorem Goes.refl (A : Nat → Prop) (w : World) : Goes A w w:=⟨Nat.le_refl _,fun _ _ _=>rfl,fun _ arr _ _ h=>⟨arr,h,rfl⟩,fun _ es k h=>⟨es,k,h⟩,⟨rfl,rfl⟩,fun _=>rfl⟩
theorem Goes.trans {A A' : Nat → Prop} {w w1 w2 : World} (h : Goes A w w1) (h' : Goes A' w1 w2) (hA : ∀ b,b < w.heap.size → A' b → A b) : Goes A w w2 where
 size:=Nat.le_trans h.size h'.size
 same:=fun b hb ha=>(h'.same b (Nat.lt_of_lt_of_le hb h.size) (fun x=>ha (hA b hb x))).trans (h.same b hb ha)
 shape:=fun b arr T fz hb=>by
  obtain ⟨arr1,h1,s1⟩:=h.shape b arr T fz hb
  obtain ⟨arr2,h2,s2⟩:=h'.shape b arr1 T fz h1
  exact ⟨arr2,h2,s2.trans s1⟩
 mapx:=fun b es k hb=>by
  obtain ⟨es1,k1,h1⟩:=h.mapx b es k hb
  exact h'.mapx b es1 k1 h1
 env:=⟨h'.env.1.trans h.env.1,h'.env.2.trans h.env.2⟩
 frz:=fun a=>(h'.frz a).trans (h.frz a)
theorem Goes.weaken {A A' : Nat → Prop} {w w' : World} (h : Goes A w w') (hA : ∀ b,b < w.heap.size → A b → A' b) : Goes A' w w':=
 { h with same:=fun b hb ha=>h.same b hb (fun x=>ha (hA b hb x)) }
theorem Zei {w w' : World} {b : Nat} (h : w'.heap[b]? = w.heap[b]?) (o : Nat) : w'.cell? ⟨b,o,none⟩ = w.cell? ⟨b,o,none⟩:=by
 simp only [World.cell?,h]
theorem RepD.mono {A A' : Nat → Prop} {w w' : World} (hg : Goes A w w') (hA : ∀ b,b < w.heap.size → A' b → A b) {d : D} {v : Value} (h : RepD A w d v) : RepD A' w' d v:=by
 induction h with
 | c v h1=>exact .c v h1
 | emp sz a cap=>exact .emp sz a cap
 | lst sz rows b o cap cell hcap hb hn hw hc hd ih=>
  refine .lst sz rows b o cap cell hcap (Nat.lt_of_lt_of_le hb hg.size) (fun x=>hn (hA b hb x)) hw (fun i row j d h1 h2=>?_) ih
  rw [Zei (hg.same b hb hn)]
  exact hc i row j d h1 h2
inductive RepV (A : Nat → Prop) (ids : Nat → Nat × Nat) (w : World) : V → Value → Prop
 | un (v : Value) : RepV A ids w .un v
 | c (v : Value) : RepV A ids w (.c v) v
 | lst (sz : Nat) (rows : List (List D)) (clip : Bool) (v : Value) (h : RepD A w (.lst sz rows) v) (hcl : clip = true → ∃ a,v = .slice a rows.length rows.length) : RepV A ids w (.lst sz rows clip) v
 | sl (n sz off len cap : Nat) (ad : Option Addr) (hl : len ≤ cap) (hc : cap ≠ 0 → ∃ (arr : Array Value) (T : TypeId),w.heap[(ids n).1]? = some (.cells arr T (0,0)) ∧
  ad = some ⟨(ids n).1,(ids n).2 + off * sz,none⟩ ∧ (ids n).2 + (off + cap) * sz ≤ arr.size) : RepV A ids w (.sl n sz off len) (.slice ad len cap)
 | sx (n sz off len cap : Nat) (ad : Option Addr) (hl : len ≤ cap) (hc : cap ≠ 0 → ∃ (arr : Array Value) (T : TypeId),w.heap[(ids n).1]? = some (.cells arr T (0,0)) ∧
  ad = some ⟨(ids n).1,(ids n).2 + off * sz,none⟩ ∧ (ids n).2 + (off + cap) * sz ≤ arr.size) : RepV A ids w (.sx n sz off len cap) (.slice ad len cap)
 | ac0 (n sz : Nat) (ad : Option Addr) : RepV A ids w (.ac n sz 0) (.slice ad 0 0)
 | ac1 (n sz len : Nat) (v : Value) (h0 : len ≠ 0) (h : RepV A ids w (.sl n sz 0 len) v) : RepV A ids w (.ac n sz len) v
 | p (n sz i j : Nat) : RepV A ids w (.p n sz i j) (.pointer (some ⟨(ids n).1,(ids n).2 + (i * sz + j),none⟩))
 | q (row : List D) (j b o : Nat) (cell : Nat → Value) (hb : b < w.heap.size) (hA : ¬ A b) (hc : ∀ (k : Nat) (d : D),row[k]? = some d → w.cell? ⟨b,o + k,none⟩ = some (cell k))
  (hd : ∀ (k : Nat) (d : D),row[k]? = some d → RepD A w d (cell k)) : RepV A ids w (.q row j) (.pointer (some ⟨b,o + j,none⟩))
 | agg (xs : List V) (arr : Array Value) (hs : arr.size = xs.length) (h : ∀ (i : Nat) (x : V) (v : Value),xs[i]? = some x → arr[i]? = some v → RepV A ids w x v) : RepV A ids w (.agg xs) (.agg arr)
 | tup (xs : List V) (arr : Array Value) (hs : arr.size = xs.length) (h : ∀ (i : Nat) (x : V) (v : Value),xs[i]? = some x → arr[i]? = some v → RepV A ids w x v) : RepV A ids w (.tup xs) (.tuple arr)
 | fn (f : Fn) (xs ys : List V) (ar br : Array Value) (hs : ar.size = xs.length) (hs' : br.size = ys.length)
  (h : ∀ (i : Nat) (x : V) (v : Value),xs[i]? = some x → ar[i]? = some v → RepV A ids w x v) (h' : ∀ (i : Nat) (x : V) (v : Value),ys[i]? = some x → br[i]? = some v → RepV A ids w x v) :
  RepV A ids w (.fn f xs ys) (.func f ar br)
 | ifc (t : TypeId) (x : V) (v : Value) (h : RepV A ids w x v) : RepV A ids w (.ifc t x) (.iface t v)
 | mp (n : Nat) : RepV A ids w (.mp n) (.map (some (ids n).1))
theorem RepV.mono {A A' : Nat → Prop} {ids ids' : Nat → Nat × Nat} {w w' : World} {m : Nm} (hg : Goes A w w') (hA : ∀ b,b < w.heap.size → A' b → A b) (hi : ∀ n,m n → ids' n = ids n)
 {x : V} {v : Value} (h : RepV A ids w x v) (hb : x.Below m) : RepV A' ids' w' x v:=by
 induction h with
 | un v=>exact .un v
 | c v=>exact .c v
 | lst sz rows clip v h hcl=>exact .lst _ _ _ _ (h.mono hg hA) hcl
 | sl n sz off len cap ad hl hc=>
  cases hb with
  | sl _ _ _ _ hn=>
   refine .sl _ _ _ _ _ _ hl fun h0=>?_
   obtain ⟨arr,T,h1,h2,h3⟩:=hc h0
   obtain ⟨arr',h4,h5⟩:=hg.shape _ _ _ _ h1
   exact ⟨arr',T,by rw [hi n hn];exact h4,by rw [hi n hn];exact h2,by rw [h5,hi n hn];exact h3⟩
 | sx n sz off len cap ad hl hc=>
  cases hb with
  | sx _ _ _ _ _ hn=>
   refine .sx _ _ _ _ _ _ hl fun h0=>?_
   obtain ⟨arr,T,h1,h2,h3⟩:=hc h0
   obtain ⟨arr',h4,h5⟩:=hg.shape _ _ _ _ h1
   exact ⟨arr',T,by rw [hi n hn];exact h4,by rw [hi n hn];exact h2,by rw [h5,hi n hn];exact h3⟩
 | ac0 n sz ad=>exact .ac0 ..
 | ac1 n sz len v h0 h ih=>
  cases hb with
  | ac _ _ _ hn=>exact .ac1 _ _ _ _ h0 (ih (.sl _ _ _ _ hn))
 | p n sz i j=>
  cases hb with
  | p _ _ _ _ hn=>rw [← hi n hn];exact .p ..
 | q row j b o cell hb' hn hc hd=>
  refine .q row j b o cell (Nat.lt_of_lt_of_le hb' hg.size) (fun x=>hn (hA b hb' x)) (fun k d hk=>?_) (fun k d hk=>(hd k d hk).mono hg hA)
  rw [Zei (hg.same b hb' hn)]
  exact hc k d hk
 | agg xs arr hs h ih=>
  cases hb with
  | agg _ hx=>exact .agg _ _ hs fun i x v h1 h2=>ih i x v h1 h2 (hx x (List.mem_of_getElem? h1))
 | tup xs arr hs h ih=>
  cases hb with
  | tup _ hx=>exact .tup _ _ hs fun i x v h1 h2=>ih i x v h1 h2 (hx x (List.mem_of_getElem? h1))
 | fn f xs ys ar br hs hs' h h' ih ih'=>
  cases hb with
  | fn _ _ _ hx hy=>exact .fn _ _ _ _ _ hs hs' (fun i x v h1 h2=>ih i x v h1 h2 (hx x (List.mem_of_getElem? h1))) (fun i x v h1 h2=>ih' i x v h1 h2 (hy x (List.mem_of_getElem? h1)))
 | ifc t x v h ih=>
  cases hb with
  | ifc _ _ hx=>exact .ifc _ _ _ (ih hx)
 | mp n=>
  cases hb with
  | mp _ hn=>rw [← hi n hn];exact .mp ..
theorem RepD.toV {A : Nat → Prop} {ids : Nat → Nat × Nat} {w : World} {d : D} {v : Value} (h : RepD A w d v) : RepV A ids w d.toV v:=by
 cases d with
 | c u=>cases h;exact .c _
 | lst sz rows=>exact .lst _ _ _ _ h (by simp)
def D.leaf : D → Bool
 | .c v=>v.oneCell'
 | .lst _ _=>true
def leaves (r : List (List D)) : Prop:=∀ row ∈ r,row.all D.leaf = true
def RepR (A : Nat → Prop) (ids : Nat → Nat × Nat) (w : World) (b : Nat × Nat) (sz : Nat) (r : List (List V)) : Prop:=
 ∃ (arr : Array Value) (T : TypeId),w.heap[b.1]? = some (.cells arr T (0,0)) ∧ b.2 + r.length * sz ≤ arr.size ∧ (∀ row ∈ r,row.length = sz) ∧
  ∀ (i : Nat) (row : List V) (j : Nat) (x : V),r[i]? = some row → row[j]? = some x → ∃ v,arr[b.2 + (i * sz + j)]? = some v ∧ RepV A ids w x v
def RepB (A : Nat → Prop) (ids : Nat → Nat × Nat) (w : World) (b : Nat × Nat) : B → Prop
 | .rows sz r=>RepR A ids w b sz r
 | .dat sz r=>(r ≠ [] → RepR A ids w b sz (YG r)) ∧ leaves r
 | .map es=>∃ (ar : Array MapEntry) (k : Nat),w.heap[b.1]? = some (.map ar k) ∧ ar.size = es.length ∧
  ∀ (i : Nat) (e : Value × V) (m : MapEntry),es[i]? = some e → ar[i]? = some m → m.key = e.1 ∧ RepV A ids w e.2 m.val
theorem RepB.see {A : Nat → Prop} {ids : Nat → Nat × Nat} {w : World} {b : Nat × Nat} {x : B} (h : RepB A ids w b x) (hr : x.real = true) : RepB A ids w b x.see:=by
 cases x with
 | dat sz r=>exact h.1 (by rintro rfl;simp [B.real] at hr)
 | _=>exact h
def Zbs (h : Hp) (ids : Nat → Nat × Nat) (b : Nat) : Prop:=∃ n x,h n = some x ∧ x.real = true ∧ (ids n).1 = b
def Ze (F : Nat → Prop) (h : Hp) (ids : Nat → Nat × Nat) (b : Nat) : Prop:=F b ∨ Zbs h ids b
structure RepH (F : Nat → Prop) (ids : Nat → Nat × Nat) (w : World) (h : Hp) (nx : Nm) : Prop where
 lt : ∀ n b,h n = some b → nx n
 blk : ∀ n b,h n = some b → RepB (Ze F h ids) ids w (ids n) b
 below : ∀ n b,h n = some b → b.Below nx
 inj : ∀ n m b c,h n = some b → h m = some c → b.real = true → c.real = true → (ids n).1 = (ids m).1 → n = m
 out : ∀ n b,h n = some b → b.real = true → ¬ F (ids n).1
 fsz : ∀ b,F b → b < w.heap.size
theorem RepB.lt {A : Nat → Prop} {ids : Nat → Nat × Nat} {w : World} {b : Nat × Nat} {x : B} (h : RepB A ids w b x) (hr : x.real = true) : b.1 < w.heap.size:=by
 cases x with
 | rows sz r=>
  obtain ⟨arr,T,hb,_⟩:=h
  exact (Array.getElem?_eq_some_iff.1 hb).1
 | dat sz r=>
  obtain ⟨arr,T,hb,_⟩:=h.1 (by rintro rfl;simp [B.real] at hr)
  exact (Array.getElem?_eq_some_iff.1 hb).1
 | map es=>
  obtain ⟨arr,k,hb,_⟩:=h
  exact (Array.getElem?_eq_some_iff.1 hb).1
theorem RepR.mono {A A' : Nat → Prop} {ids ids' : Nat → Nat × Nat} {w w' : World} {m : Nm} {b : Nat × Nat} (hg : Goes A w w') (hA : ∀ b,b < w.heap.size → A' b → A b) (hi : ∀ n,m n → ids' n = ids n)
 {sz : Nat} {r : List (List V)} (h : RepR A ids w b sz r) (hb : ∀ row ∈ r,∀ x ∈ row,x.Below m) (hs : w'.heap[b.1]? = w.heap[b.1]?) : RepR A' ids' w' b sz r:=by
 obtain ⟨arr,T,h1,h2,h3,h4⟩:=h
 refine ⟨arr,T,by rw [hs];exact h1,h2,h3,fun i row j x hr hx=>?_⟩
 obtain ⟨v,hv,hr'⟩:=h4 i row j x hr hx
 exact ⟨v,hv,hr'.mono hg hA hi (hb row (List.mem_of_getElem? hr) x (List.mem_of_getElem? hx))⟩
theorem RepB.mono {A A' : Nat → Prop} {ids ids' : Nat → Nat × Nat} {w w' : World} {m : Nm} {b : Nat × Nat} (hg : Goes A w w') (hA : ∀ b,b < w.heap.size → A' b → A b) (hi : ∀ n,m n → ids' n = ids n)
 {x : B} (h : RepB A ids w b x) (hb : x.Below m) (hs : x.real = true → w'.heap[b.1]? = w.heap[b.1]?) : RepB A' ids' w' b x:=by
 cases x with
 | rows sz r=>exact RepR.mono hg hA hi h hb (hs rfl)
 | dat sz r=>
  refine ⟨fun hr=>?_,h.2⟩
  exact RepR.mono hg hA hi (h.1 hr) (ZJ m r) (hs (by cases r with | nil=>exact absurd rfl hr | cons _ _=>rfl))
 | map es=>
  obtain ⟨ar,k,h1,h2,h3⟩:=h
  refine ⟨ar,k,by rw [hs rfl];exact h1,h2,fun i e mm he hm=>?_⟩
  obtain ⟨hk,hv⟩:=h3 i e mm he hm
  exact ⟨hk,hv.mono hg hA hi (hb e (List.mem_of_getElem? he))⟩
inductive Marks (w : World) : List Deferred → Prop
 | nil : Marks w []
 | cons (r : Nat) (ds : List Deferred) (h : w.heap[r]? = some (.deferred (some []))) (hn : ∀ d ∈ ds,d.target ≠ .collected r) (hr : Marks w ds) : Marks w ({ target:=.collected r,args:=#[] } :: ds)
theorem RepH.mark {F : Nat → Prop} {ids : Nat → Nat × Nat} {w : World} {h : Hp} {nx : Nm} (hh : RepH F ids w h nx) {r : Nat} {ds : Option (List Deferred)} (hr : w.heap[r]? = some (.deferred ds)) : ¬ Zbs h ids r:=by
 rintro ⟨n,x,hn,hx,rfl⟩
 have hb:=hh.blk n x hn
 cases x with
 | rows sz rs=>obtain ⟨arr,T,h1,_⟩:=hb;rw [hr] at h1;cases h1
 | dat sz rs=>obtain ⟨arr,T,h1,_⟩:=hb.1 (by rintro rfl;simp [B.real] at hx);rw [hr] at h1;cases h1
 | map es=>obtain ⟨ar,k,h1,_⟩:=hb;rw [hr] at h1;cases h1
theorem Marks.goes {F : Nat → Prop} {ids : Nat → Nat × Nat} {w w' : World} {h : Hp} {nx : Nm} (hh : RepH F ids w h nx) (hg : Goes (Zbs h ids) w w') {ds : List Deferred} (hm : Marks w ds) : Marks w' ds:=by
 induction hm with
 | nil=>exact .nil
 | cons r ds h1 hn _ ih=>exact .cons r ds (by rw [hg.same r (Array.getElem?_eq_some_iff.1 h1).1 (hh.mark h1)];exact h1) hn ih
structure RepT (F : Nat → Prop) (ids : Nat → Nat × Nat) (w : World) (M : Nm) (t : Nat → V) (h : Hp) (n : Nat) (a : Act) : Prop where
 heap : RepH F ids w h M
 tmps : ∀ i,RepV (Ze F h ids) ids w (t i) (a.tmps.getD i undef)
 size : a.tmps.size = n
 out : ∀ i,n ≤ i → t i = .un
 below : ∀ i,(t i).Below M
 defers : Marks w a.defers
abbrev Rep (F : Nat → Prop) (ids : Nat → Nat × Nat) (w : World) (s : St) (a : Act) : Prop:=RepT F ids w (Lt s.b) s.t s.h s.n a
theorem Z8 (b o i : Nat) : (⟨b,o,none⟩ : Addr).add i = ⟨b,o + i,none⟩:=by
 unfold Addr.add;split
 · next h=>subst h;rfl
 · rfl
theorem ZcI (P : Program) (w : World) (b o : Nat) (c : Nat → Value) : ∀ (n i : Nat) (acc : Array Value),
 (∀ k,k < n → w.cell? ⟨b,o + (i + k),none⟩ = some (c (i + k))) →
 (loadCellsFrom ⟨b,o,none⟩ i n acc).run P w = .ok (acc ++ ((List.range n).map fun k=>c (i + k)).toArray) w:=by
 intro n
 induction n with
 | zero=>intro i acc _;simp [loadCellsFrom]
 | succ n ih=>
  intro i acc h
  have h0:=h 0 (by omega)
  simp only [Nat.add_zero] at h0
  simp only [loadCellsFrom,Sem.run_bind,run_load,Z8,h0,Result.andThen_ok]
  rw [ih (i + 1) _ (fun k hk=>by have:=h (k + 1) (by omega);rw [show i + 1 + k = i + (k + 1) by omega];exact this)]
  simp only [Result.ok.injEq,and_true]
  apply Array.toList_inj.1
  simp only [Array.toList_append,Array.toList_push,List.range_succ_eq_map,List.map_cons,List.map_map,List.append_assoc]
  simp [Function.comp_def,Nat.add_assoc,Nat.add_comm 1]
theorem ZbW (P : Program) (w : World) (b o n : Nat) (c : Nat → Value) (h : ∀ k,k < n → w.cell? ⟨b,o + k,none⟩ = some (c k)) :
 (loadCells ⟨b,o,none⟩ n).run P w = .ok ((List.range n).map c).toArray w:=by
 unfold loadCells
 rw [ZcI P w b o c n 0 #[] (fun k hk=>by simpa using h k hk)]
 simp
def splice (arr : Array Value) (off : Nat) : List Value → Array Value
 | []=>arr
 | v :: vs=>splice (arr.setIfInBounds off v) (off + 1) vs
theorem Y5 (vs : List Value) : ∀ (arr : Array Value) (off : Nat),(splice arr off vs).size = arr.size:=by
 induction vs with
 | nil=>intro arr off;rfl
 | cons v vs ih=>intro arr off;simp [splice,ih]
theorem Zbj (vs : List Value) : ∀ (arr : Array Value) (off k : Nat),off + vs.length ≤ arr.size →
 (splice arr off vs)[k]? = if off ≤ k ∧ k < off + vs.length then vs[k - off]? else arr[k]?:=by
 induction vs with
 | nil=>intro arr off k _;simp only [splice,List.length_nil];rw [if_neg (by omega)]
 | cons v vs ih=>
  intro arr off k h
  simp only [List.length_cons] at h
  rw [splice,ih _ _ _ (by simp;omega)]
  by_cases h1 : off + 1 ≤ k ∧ k < off + 1 + vs.length
  · rw [if_pos h1,if_pos (by simp;omega)]
    obtain ⟨m,hm⟩ : ∃ m,k - off = m + 1:=⟨k - off - 1,by omega⟩
    rw [hm,show k - (off + 1) = m by omega,List.getElem?_cons_succ]
  · rw [if_neg h1]
    by_cases h2 : k = off
    · subst h2
      rw [if_pos (by simp),Nat.sub_self,List.getElem?_cons_zero,Array.getElem?_setIfInBounds,if_pos rfl,if_pos (by omega)]
    · rw [if_neg (by simp;omega),Array.getElem?_setIfInBounds,if_neg (fun e=>h2 e.symm)]
def World.put (w : World) (b : Nat) (o : Obj) : World:={ w with heap:=w.heap.setIfInBounds b o }
theorem Zbk (w : World) (b : Nat) (o : Obj) : (World.put w b o).heap.size = w.heap.size:=by simp [World.put]
theorem ZQ (w : World) (b : Nat) (o : Obj) (h : b < w.heap.size) : (World.put w b o).heap[b]? = some o:=by simp [World.put,h]
theorem Zz (w : World) (b c : Nat) (o : Obj) (h : c ≠ b) : (World.put w b o).heap[c]? = w.heap[c]?:=by simp [World.put,Ne.symm h]
theorem ZbT {w : World} {b : Nat} {arr : Array Value} {T : TypeId} {fz : Nat × Nat} (h : w.heap[b]? = some (.cells arr T fz)) (o : Nat) : w.cell? ⟨b,o,none⟩ = arr[o]?:=by
 simp [World.cell?,h]
theorem ZhJ {w : World} {b : Nat} {arr : Array Value} {T : TypeId} {fz : Nat × Nat} (h : w.heap[b]? = some (.cells arr T fz)) (o : Nat) (v : Value) :
 w.setCell ⟨b,o,none⟩ v = World.put w b (.cells (arr.setIfInBounds o v) T fz):=by
 unfold World.setCell World.put
 congr 1
 apply Array.ext_getElem?
 intro i
 rw [Array.getElem?_modify,Array.getElem?_setIfInBounds]
 have hb:=(Array.getElem?_eq_some_iff.1 h).1
 by_cases hi : b = i
 · subst hi;rw [h];simp [hb]
 · simp [hi]
theorem Zp6 (w : World) (b : Nat) (o o' : Obj) : World.put (World.put w b o) b o' = World.put w b o':=by
 simp only [World.put,Array.setIfInBounds_setIfInBounds]
theorem Q6 (P : Program) (b : Nat) (T : TypeId) (vs : List Value) (hv : ∀ v ∈ vs,v.oneCell' = true) : ∀ (w : World) (off i : Nat) (arr : Array Value),
 w.heap[b]? = some (.cells arr T (0,0)) → off + i + vs.length ≤ arr.size →
 (storeCells ⟨b,off,none⟩ vs i).run P w = .ok () (if vs = [] then w else World.put w b (.cells (splice arr (off + i) vs) T (0,0))):=by
 induction vs with
 | nil=>intro w off i arr _ _;simp [storeCells]
 | cons v vs ih=>
  intro w off i arr h hs
  simp only [List.length_cons] at hs
  have hc : w.cell? ⟨b,off + i,none⟩ = some (arr[off + i]'(by omega)):=by rw [ZbT h];simp
  have hf : w.frozen? ⟨b,off + i,none⟩ = false:=by simp [World.frozen?,h]
  simp only [storeCells,Sem.run_bind,Z8,run_store P w _ v .plain (hv v (by simp)),hc,hf,Bool.false_eq_true,if_false,Result.andThen_ok]
  rw [ZhJ h]
  have hb:=(Array.getElem?_eq_some_iff.1 h).1
  rw [ih (fun v hv'=>hv v (by simp [hv'])) _ off (i + 1) (arr.setIfInBounds (off + i) v) (ZQ _ _ _ hb) (by simp;omega)]
  simp only [Result.ok.injEq,true_and,reduceCtorEq,if_false]
  split
  · next e=>subst e;rfl
  · rw [Zp6];rfl
structure Chg (F : Nat → Prop) (ids : Nat → Nat × Nat) (w : World) (h : Hp) (nx : Nm) (ids' : Nat → Nat × Nat) (w' : World) (h' : Hp) (nx' : Nm) : Prop where
 heap : RepH F ids' w' h' nx'
 goes : Goes (Zbs h ids) w w'
 live : ∀ b,b < w.heap.size → Zbs h' ids' b → Zbs h ids b
 ids : ∀ n,nx n → ids' n = ids n
 nx : nx.le nx'
theorem Chg.avoid {F : Nat → Prop} {ids ids' : Nat → Nat × Nat} {w w' : World} {h h' : Hp} {nx nx' : Nm} (c : Chg F ids w h nx ids' w' h' nx') (b : Nat) (hb : b < w.heap.size) (x : Ze F h' ids' b) : Ze F h ids b:=by
 rcases x with x | x
 · exact .inl x
 · exact .inr (c.live b hb x)
theorem Chg.goes' {F : Nat → Prop} {ids ids' : Nat → Nat × Nat} {w w' : World} {h h' : Hp} {nx nx' : Nm} (c : Chg F ids w h nx ids' w' h' nx') : Goes (Ze F h ids) w w':=
 c.goes.weaken fun _ _ x=>.inr x
theorem Chg.rep {F : Nat → Prop} {ids ids' : Nat → Nat × Nat} {w w' : World} {h h' : Hp} {nx nx' : Nm} (c : Chg F ids w h nx ids' w' h' nx') {x : V} {v : Value}
 (hr : RepV (Ze F h ids) ids w x v) (hb : x.Below nx) : RepV (Ze F h' ids') ids' w' x v:=
 hr.mono c.goes' c.avoid c.ids hb
theorem Chg.refl {F : Nat → Prop} {ids : Nat → Nat × Nat} {w : World} {h : Hp} {nx : Nm} (hh : RepH F ids w h nx) : Chg F ids w h nx ids w h nx:=
 ⟨hh,Goes.refl _ _,fun _ _ x=>x,fun _ _=>rfl,Nm.le_refl _⟩
theorem Chg.trans {F : Nat → Prop} {ids ids1 ids2 : Nat → Nat × Nat} {w w1 w2 : World} {h h1 h2 : Hp} {nx nx1 nx2 : Nm} (c : Chg F ids w h nx ids1 w1 h1 nx1) (c' : Chg F ids1 w1 h1 nx1 ids2 w2 h2 nx2) :
 Chg F ids w h nx ids2 w2 h2 nx2:=
 ⟨c'.heap,c.goes.trans c'.goes c.live,fun b hb x=>c.live b hb (c'.live b (Nat.lt_of_lt_of_le hb c.goes.size) x),fun n hn=>(c'.ids n (c.nx n hn)).trans (c.ids n hn),Nm.le_trans c.nx c'.nx⟩
theorem RepH.liveLt {F : Nat → Prop} {ids : Nat → Nat × Nat} {w : World} {h : Hp} {nx : Nm} (hh : RepH F ids w h nx) {b : Nat} (x : Zbs h ids b) : b < w.heap.size:=by
 obtain ⟨n,y,h1,hr,rfl⟩:=x
 exact (hh.blk n y h1).lt hr
theorem RepH.nx {F : Nat → Prop} {ids : Nat → Nat × Nat} {w : World} {h : Hp} {nx nx' : Nm} (hh : RepH F ids w h nx) (hn : nx.le nx') : RepH F ids w h nx':=
 { hh with lt:=fun n b hb=>hn n (hh.lt n b hb),below:=fun n b hb=>(hh.below n b hb).mono hn }
theorem Chg.skip {F : Nat → Prop} {ids : Nat → Nat × Nat} {w : World} {h : Hp} {nx nx' : Nm} (hh : RepH F ids w h nx) (hn : nx.le nx') : Chg F ids w h nx ids w h nx':=
 ⟨hh.nx hn,Goes.refl _ _,fun _ _ x=>x,fun _ _=>rfl,hn⟩
theorem Goes.drew (A : Nat → Prop) (w : World) : Goes A w w.drew:=⟨Nat.le_refl _,fun _ _ _=>rfl,fun _ arr _ _ h=>⟨arr,h,rfl⟩,fun _ es k h=>⟨es,k,h⟩,⟨rfl,rfl⟩,fun _=>rfl⟩
theorem YW (w : World) (o : Obj) : (w.alloc o).heap = w.heap.push o:=rfl
def ZtK (o : Obj) : Prop:=∀ arr T fz,o = .cells arr T fz → fz = (0,0)
theorem Zgx {w : World} {a : Addr} {arr : Array Value} {T : TypeId} (h : w.heap[a.block]? = some (.cells arr T (0,0))) : w.frozen? a = false:=by
 simp only [World.frozen?,h]
 simp
theorem YZ {w w' : World} {a : Addr} (h : w'.heap[a.block]? = w.heap[a.block]?) : w'.frozen? a = w.frozen? a:=by
 simp only [World.frozen?,h]
theorem QP {w w' : World} {a : Addr} {arr arr' : Array Value} {T T' : TypeId} {fz : Nat × Nat} (h : w.heap[a.block]? = some (.cells arr T fz)) (h' : w'.heap[a.block]? = some (.cells arr' T' fz)) : w'.frozen? a = w.frozen? a:=by
 simp only [World.frozen?,h,h']
theorem Ze5 {w w' : World} {a : Addr} {es es' : Array MapEntry} {k k' : Nat} (h : w.heap[a.block]? = some (.map es k)) (h' : w'.heap[a.block]? = some (.map es' k')) : w'.frozen? a = w.frozen? a:=by
 simp only [World.frozen?,h,h']
theorem Goes.alloc (A : Nat → Prop) (w : World) (o : Obj) (ho : ZtK o:=by intro _ _ _ h;cases h;rfl) : Goes A w (w.alloc o) where
 size:=by simp
 same:=fun b hb _=>by rw [YW,Array.getElem?_push,if_neg (by omega)]
 shape:=fun b arr T fz h=>⟨arr,by
  have hb:=(Array.getElem?_eq_some_iff.1 h).1
  rw [YW,Array.getElem?_push,if_neg (by omega)];exact h,rfl⟩
 mapx:=fun b es k h=>⟨es,k,by
  have hb:=(Array.getElem?_eq_some_iff.1 h).1
  rw [YW,Array.getElem?_push,if_neg (by omega)];exact h⟩
 env:=⟨rfl,rfl⟩
 frz:=fun a=>by
  by_cases e : a.block = w.heap.size
  · have e1 : w.heap[a.block]? = none:=by rw [e];simp
    have e2 : (w.alloc o).heap[a.block]? = some o:=by rw [YW,Array.getElem?_push,if_pos e]
    cases o with
    | cells arr T fz=>cases ho _ _ _ rfl;rw [Zgx e2];simp only [World.frozen?,e1]
    | _=>simp only [World.frozen?,e1,e2]
  · exact YZ (by rw [YW,Array.getElem?_push,if_neg e])
theorem Yx (w : World) (o : Obj) : (w.alloc o).heap[w.heap.size]? = some o:=by rw [YW,Array.getElem?_push,if_pos rfl]
theorem Chg.name {F : Nat → Prop} {ids : Nat → Nat × Nat} {w w' : World} {h : Hp} {nx : Nm} {nm : Nat} (hh : RepH F ids w h nx) (hn : ¬ nx nm) (Z : Nat → Prop) [DecidablePred Z] (p : Nat × Nat) (b : B)
 (hg : Goes (fun c=>∃ n x,Z n ∧ h n = some x ∧ x.real = true ∧ (ids n).1 = c) w w') (hb : b.Below (nx.add nm)) (hp : b.real = true → (w.heap.size ≤ p.1 ∧ p.1 < w'.heap.size) ∨ ∃ n x,Z n ∧ h n = some x ∧ x.real = true ∧ (ids n).1 = p.1)
 (hr : ∀ (ids' : Nat → Nat × Nat) (A : Nat → Prop),(∀ n,nx n → ids' n = ids n) → (∀ c,c < w.heap.size → A c → Ze F h ids c) → RepB A ids' w' p b) :
 Chg F ids w h nx (upd ids nm p) w' (upd (fun n=>if Z n then none else h n) nm (some b)) (nx.add nm):=by
 have hids : ∀ n,nx n → upd ids nm p n = ids n:=fun n hn'=>Zi _ _ _ _ (Nm.ne hn hn')
 have hcase : ∀ m c,upd (fun n=>if Z n then none else h n) nm (some b) m = some c → (m = nm ∧ c = b) ∨ (m ≠ nm ∧ ¬ Z m ∧ h m = some c):=by
  intro m c hc
  by_cases e : m = nm
  · subst e;rw [Zb] at hc;cases hc;exact .inl ⟨rfl,rfl⟩
  · rw [Zi _ _ _ _ e] at hc
    split at hc
    · cases hc
    · next hz=>exact .inr ⟨e,hz,hc⟩
 have hlive : ∀ c,c < w.heap.size → Zbs (upd (fun n=>if Z n then none else h n) nm (some b)) (upd ids nm p) c → Zbs h ids c:=by
  rintro c hc ⟨n,y,hy,hyr,rfl⟩
  rcases hcase n y hy with ⟨rfl,rfl⟩ | ⟨e,_,hy⟩
  · rw [Zb] at hc ⊢
    rcases hp hyr with hp | ⟨n,x,_,hx,hxr,hxp⟩
    · omega
    · exact ⟨n,x,hx,hxr,hxp⟩
  · rw [Zi _ _ _ _ e];exact ⟨n,y,hy,hyr,rfl⟩
 have hav : ∀ c,c < w.heap.size → Ze F (upd (fun n=>if Z n then none else h n) nm (some b)) (upd ids nm p) c → Ze F h ids c:=fun c hc x=>x.imp id (hlive c hc)
 have hgl : Goes (Zbs h ids) w w':=hg.weaken fun c _ ⟨n,x,_,hx,hxr,hc⟩=>⟨n,x,hx,hxr,hc⟩
 have hsame : ∀ m c,h m = some c → ¬ Z m → c.real = true → w'.heap[(ids m).1]? = w.heap[(ids m).1]?:=by
  intro m c hc hz hcr
  refine hg.same _ ((hh.blk m c hc).lt hcr) ?_
  rintro ⟨n,x,hzn,hx,hxr,e⟩
  exact hz (hh.inj _ _ _ _ hx hc hxr hcr e ▸ hzn)
 refine ⟨⟨?_,?_,?_,?_,?_,fun c x=>Nat.lt_of_lt_of_le (hh.fsz c x) hg.size⟩,hgl,hlive,hids,Nm.le_add _ _⟩
 · intro m c hc
   rcases hcase m c hc with ⟨rfl,rfl⟩ | ⟨e,_,hm⟩
   · exact .inr rfl
   · exact .inl (hh.lt m c hm)
 · intro m c hc
   rcases hcase m c hc with ⟨rfl,rfl⟩ | ⟨e,hz,hm⟩
   · rw [Zb];exact hr _ _ hids hav
   · rw [Zi _ _ _ _ e]
     exact (hh.blk m c hm).mono (hgl.weaken fun _ _ x=>.inr x) hav hids (hh.below m c hm) (hsame m c hm hz)
 · intro m c hc
   rcases hcase m c hc with ⟨rfl,rfl⟩ | ⟨e,_,hm⟩
   · exact hb
   · exact (hh.below m c hm).mono (Nm.le_add _ _)
 · intro m k c d hc hd hcr hdr he
   rcases hcase m c hc with ⟨rfl,rfl⟩ | ⟨e,hz,hm⟩
   · rcases hcase k d hd with ⟨rfl,rfl⟩ | ⟨f,hz,hk⟩
     · rfl
     · rw [Zb,Zi _ _ _ _ f] at he
       rcases hp hcr with hp | ⟨n,x,hzn,hx,hxr,hxp⟩
       · have:=(hh.blk k d hk).lt hdr;omega
       · exact absurd (hh.inj n k _ _ hx hk hxr hdr (hxp.trans he) ▸ hzn) hz
   · rcases hcase k d hd with ⟨rfl,rfl⟩ | ⟨f,_,hk⟩
     · rw [Zb,Zi _ _ _ _ e] at he
       rcases hp hdr with hp | ⟨n,x,hzn,hx,hxr,hxp⟩
       · have:=(hh.blk m c hm).lt hcr;omega
       · exact absurd (hh.inj n m _ _ hx hm hxr hcr (hxp.trans he.symm) ▸ hzn) hz
     · rw [Zi _ _ _ _ e,Zi _ _ _ _ f] at he
       exact hh.inj m k c d hm hk hcr hdr he
 · intro m c hc hcr
   rcases hcase m c hc with ⟨rfl,rfl⟩ | ⟨e,_,hm⟩
   · rw [Zb]
     rcases hp hcr with hp | ⟨n,x,_,hx,hxr,hxp⟩
     · intro hF;have:=hh.fsz _ hF;omega
     · rw [← hxp];exact hh.out n x hx hxr
   · rw [Zi _ _ _ _ e];exact hh.out m c hm hcr
theorem Chg.new {F : Nat → Prop} {ids : Nat → Nat × Nat} {w : World} {h : Hp} {nx : Nm} {nm : Nat} (hh : RepH F ids w h nx) (hn : ¬ nx nm) (o : Obj) (b : B)
 (hb : b.Below nx)
 (hr : ∀ (ids' : Nat → Nat × Nat) (A : Nat → Prop),(∀ n,nx n → ids' n = ids n) → (∀ c,c < w.heap.size → A c → Ze F h ids c) → RepB A ids' (w.alloc o) (w.heap.size,0) b) (ho : ZtK o:=by intro _ _ _ h;cases h;rfl) :
 Chg F ids w h nx (upd ids nm (w.heap.size,0)) (w.alloc o) (upd h nm (some b)) (nx.add nm):=by
 have:=Chg.name hh hn (fun _=>False) (w.heap.size,0) b (Goes.alloc _ w o ho) (hb.mono (Nm.le_add _ _)) (fun _=>.inl ⟨Nat.le_refl _,by simp⟩) hr
 simpa using this
theorem Chg.write {F : Nat → Prop} {ids : Nat → Nat × Nat} {w : World} {h : Hp} {nx : Nm} {n : Nat} (hh : RepH F ids w h nx) {b b' : B} (hb : h n = some b) (hbr : b.real = true) (o o' : Obj) (ho : w.heap[(ids n).1]? = some o)
 (hsh : ∀ (arr : Array Value) (T : TypeId) (fz : Nat × Nat),o = .cells arr T fz → ∃ arr' : Array Value,o' = .cells arr' T fz ∧ arr'.size = arr.size)
 (hmp : ∀ (es : Array MapEntry) (k : Nat),o = .map es k → ∃ es' k',o' = .map es' k')
 (hbel : b'.Below nx) (hr : ∀ A : Nat → Prop,(∀ c,c < w.heap.size → A c → Ze F h ids c) → RepB A ids (World.put w (ids n).1 o') (ids n) b') :
 Chg F ids w h nx ids (World.put w (ids n).1 o') (upd h n (some b')) nx:=by
 have hlt:=(hh.blk n b hb).lt hbr
 have hgo : Goes (Zbs h ids) w (World.put w (ids n).1 o'):=by
  refine ⟨Nat.le_of_eq (Zbk _ _ _).symm,fun c _ hc=>Zz _ _ _ _ fun e=>hc ⟨n,b,hb,hbr,e.symm⟩,fun c arr T fz hc=>?_,fun c es k hc=>?_,⟨rfl,rfl⟩,fun a=>?_⟩
  · by_cases e : c = (ids n).1
    · subst e
      rw [ho] at hc;cases hc
      obtain ⟨arr',h1,h2⟩:=hsh _ _ _ rfl
      exact ⟨arr',by rw [ZQ _ _ _ hlt,h1],h2⟩
    · exact ⟨arr,by rw [Zz _ _ _ _ e];exact hc,rfl⟩
  · by_cases e : c = (ids n).1
    · subst e
      rw [ho] at hc;cases hc
      obtain ⟨es',k',h1⟩:=hmp _ _ rfl
      exact ⟨es',k',by rw [ZQ _ _ _ hlt,h1]⟩
    · exact ⟨es,k,by rw [Zz _ _ _ _ e];exact hc⟩
  · by_cases e : a.block = (ids n).1
    · cases o with
      | cells arr T fz=>
       obtain ⟨arr',h1,h2⟩:=hsh _ _ _ rfl
       exact QP (by rw [e];exact ho) (by rw [e,ZQ _ _ _ hlt,h1])
      | map es k=>
       obtain ⟨es',k',h1⟩:=hmp _ _ rfl
       exact Ze5 (by rw [e];exact ho) (by rw [e,ZQ _ _ _ hlt,h1])
      | _=>
       exfalso
       have hq:=hh.blk n b hb
       cases b with
       | rows sz r=>obtain ⟨arr,T,h1,_⟩:=hq;rw [ho] at h1;cases h1
       | map es=>obtain ⟨ar,k,h1,_⟩:=hq;rw [ho] at h1;cases h1
       | dat sz r=>
        obtain ⟨arr,T,h1,_⟩:=hq.1 (by rintro rfl;simp [B.real] at hbr)
        rw [ho] at h1;cases h1
    · exact YZ (Zz _ _ _ _ e)
 have hlive : ∀ c,Zbs (upd h n (some b')) ids c → Zbs h ids c:=by
  rintro c ⟨m,y,hy,hyr,rfl⟩
  by_cases e : m = n
  · subst e;exact ⟨m,b,hb,hbr,rfl⟩
  · rw [Zi _ _ _ _ e] at hy;exact ⟨m,y,hy,hyr,rfl⟩
 have hav : ∀ c,c < w.heap.size → Ze F (upd h n (some b')) ids c → Ze F h ids c:=fun c _ x=>x.imp id (hlive c)
 refine ⟨⟨?_,?_,?_,?_,?_,?_⟩,hgo,fun c _ x=>hlive c x,fun _ _=>rfl,Nm.le_refl _⟩
 · intro m c hc
   by_cases e : m = n
   · subst e;exact hh.lt m b hb
   · rw [Zi _ _ _ _ e] at hc;exact hh.lt m c hc
 · intro m c hc
   by_cases e : m = n
   · subst e;rw [Zb] at hc;cases hc;exact hr _ hav
   · rw [Zi _ _ _ _ e] at hc
     refine (hh.blk m c hc).mono (hgo.weaken fun _ _ x=>.inr x) hav (fun _ _=>rfl) (hh.below m c hc) (fun hcr=>Zz _ _ _ _ fun x=>e (hh.inj _ _ _ _ hc hb hcr hbr x))
 · intro m c hc
   by_cases e : m = n
   · subst e;rw [Zb] at hc;cases hc;exact hbel
   · rw [Zi _ _ _ _ e] at hc;exact hh.below m c hc
 · intro m k c d hc hd hcr hdr he
   have hc' : ∃ c,h m = some c ∧ c.real = true:=by
    by_cases e : m = n
    · subst e;exact ⟨b,hb,hbr⟩
    · rw [Zi _ _ _ _ e] at hc;exact ⟨c,hc,hcr⟩
   have hd' : ∃ c,h k = some c ∧ c.real = true:=by
    by_cases e : k = n
    · subst e;exact ⟨b,hb,hbr⟩
    · rw [Zi _ _ _ _ e] at hd;exact ⟨d,hd,hdr⟩
   obtain ⟨c',hc',hcr'⟩:=hc'
   obtain ⟨d',hd',hdr'⟩:=hd'
   exact hh.inj _ _ _ _ hc' hd' hcr' hdr' he
 · intro m c hc hcr
   by_cases e : m = n
   · subst e;exact hh.out m b hb hbr
   · rw [Zi _ _ _ _ e] at hc;exact hh.out m c hc hcr
 · intro c x;rw [Zbk];exact hh.fsz c x
theorem Chg.less {F : Nat → Prop} {ids : Nat → Nat × Nat} {w : World} {h h' : Hp} {nx : Nm} (hh : RepH F ids w h nx) (hl : ∀ m c,h' m = some c → h m = some c) : Chg F ids w h nx ids w h' nx:=by
 have hav : ∀ c,c < w.heap.size → Ze F h' ids c → Ze F h ids c:=by
  rintro c _ (x | ⟨m,y,hy,hyr,rfl⟩)
  · exact .inl x
  · exact .inr ⟨m,y,hl m y hy,hyr,rfl⟩
 refine ⟨⟨fun m c hc=>hh.lt m c (hl m c hc),fun m c hc=>?_,fun m c hc=>hh.below m c (hl m c hc),fun m k c d hc hd hcr hdr he=>hh.inj _ _ _ _ (hl m c hc) (hl k d hd) hcr hdr he,fun m c hc hcr=>hh.out m c (hl m c hc) hcr,hh.fsz⟩,
  Goes.refl _ _,?_,fun _ _=>rfl,Nm.le_refl _⟩
 · exact (hh.blk m c (hl m c hc)).mono (Goes.refl _ _) hav (fun _ _=>rfl) (hh.below m c (hl m c hc)) (fun _=>rfl)
 · rintro c _ ⟨m,y,hy,hyr,rfl⟩
   exact ⟨m,y,hl m y hy,hyr,rfl⟩
theorem Chg.style {F : Nat → Prop} {ids : Nat → Nat × Nat} {w : World} {h : Hp} {nx : Nm} {n : Nat} (hh : RepH F ids w h nx) {b b' : B} (hn : h n = some b) (hb : b'.Below nx) (hr : b'.real = true → b.real = true)
 (hB : ∀ A,RepB A ids w (ids n) b → RepB A ids w (ids n) b') : Chg F ids w h nx ids w (upd h n (some b')) nx:=by
 have hl : ∀ m c,upd h n (some b') m = some c → (m = n ∧ c = b') ∨ (m ≠ n ∧ h m = some c):=by
  intro m c hc
  by_cases e : m = n
  · subst e;rw [Zb] at hc;cases hc;exact .inl ⟨rfl,rfl⟩
  · rw [Zi _ _ _ _ e] at hc;exact .inr ⟨e,hc⟩
 have hl2 : ∀ m c,upd h n (some b') m = some c → ∃ d,h m = some d ∧ (c.real = true → d.real = true):=by
  intro m c hc
  rcases hl m c hc with ⟨rfl,rfl⟩ | ⟨_,hm⟩
  · exact ⟨b,hn,hr⟩
  · exact ⟨c,hm,id⟩
 have hlive : ∀ c,Zbs (upd h n (some b')) ids c → Zbs h ids c:=by
  rintro c ⟨m,y,hy,hyr,rfl⟩
  obtain ⟨d,hd,hdr⟩:=hl2 m y hy
  exact ⟨m,d,hd,hdr hyr,rfl⟩
 have hav : ∀ c,c < w.heap.size → Ze F (upd h n (some b')) ids c → Ze F h ids c:=fun c _ x=>x.imp id (hlive c)
 refine ⟨⟨fun m c hc=>?_,fun m c hc=>?_,fun m c hc=>?_,fun m k c d hc hd hcr hdr he=>?_,fun m c hc hcr=>?_,hh.fsz⟩,Goes.refl _ _,fun c _ x=>hlive c x,fun _ _=>rfl,Nm.le_refl _⟩
 · obtain ⟨d,hd,_⟩:=hl2 m c hc;exact hh.lt m d hd
 · rcases hl m c hc with ⟨rfl,rfl⟩ | ⟨_,hm⟩
   · exact (hB _ (hh.blk m b hn)).mono (Goes.refl _ _) hav (fun _ _=>rfl) hb (fun _=>rfl)
   · exact (hh.blk m c hm).mono (Goes.refl _ _) hav (fun _ _=>rfl) (hh.below m c hm) (fun _=>rfl)
 · rcases hl m c hc with ⟨rfl,rfl⟩ | ⟨_,hm⟩
   · exact hb
   · exact hh.below m c hm
 · obtain ⟨c',hc',r1⟩:=hl2 m c hc
   obtain ⟨d',hd',r2⟩:=hl2 k d hd
   exact hh.inj _ _ _ _ hc' hd' (r1 hcr) (r2 hdr) he
 · obtain ⟨d,hd,r1⟩:=hl2 m c hc;exact hh.out m d hd (r1 hcr)
theorem Chg.see {F : Nat → Prop} {ids : Nat → Nat × Nat} {w : World} {h : Hp} {nx : Nm} {n : Nat} (hh : RepH F ids w h nx) {b : B} (hn : h n = some b) (hbr : b.real = true) : Chg F ids w h nx ids w (upd h n (some b.see)) nx:=
 Chg.style hh hn (hh.below n b hn).see (fun _=>hbr) fun _ hB=>hB.see hbr
theorem Chg.unsee {F : Nat → Prop} {ids : Nat → Nat × Nat} {w : World} {h : Hp} {nx : Nm} {n sz : Nat} {r : List (List D)} (hh : RepH F ids w h nx) (hn : h n = some (.rows sz (YG r))) (hl : leaves r) : Chg F ids w h nx ids w (upd h n (some (.dat sz r))) nx:=
 Chg.style hh hn trivial (fun _=>rfl) fun _ hB=>⟨fun _=>hB,hl⟩
theorem Chg.ghost {F : Nat → Prop} {ids : Nat → Nat × Nat} {w : World} {h : Hp} {nx : Nm} {nm sz : Nat} (hh : RepH F ids w h nx) (hn : ¬ nx nm) : Chg F ids w h nx (upd ids nm (0,0)) w (upd h nm (some (.dat sz []))) (nx.add nm):=by
 have:=Chg.name (w':=w) hh hn (fun _=>False) (0,0) (.dat sz []) (Goes.refl _ w) trivial (fun h=>by cases h) (fun _ _ _ _=>⟨fun h=>absurd rfl h,by simp [leaves]⟩)
 simpa using this
inductive TK where
 | leaf | bool | func | ptr (e : TypeId) | int (k : IntKind) | iface | slice (e : TypeId) | struct (fs : List (Nat × TypeId)) | array (n : Nat) (e : TypeId) | map (k e : TypeId)
structure Ty where
 size : Nat
 bytes : Nat
 agg : Bool
 zero : List Value
 kind : TK
abbrev Tab:=TypeId → Option Ty
inductive Fits : TypeDesc → TK → Bool → Prop
 | leaf (d : TypeDesc) (h : (match d with | .struct _ | .array _ _ | .interface _=>true | _=>false) = false) : Fits d .leaf false
 | bool : Fits .bool .bool false
 | func (a b : Array TypeId) (v : Bool) : Fits (.func a b v) .func false
 | ptr (e : TypeId) : Fits (.pointer e) (.ptr e) false
 | int (k : IntKind) : Fits (.int k) (.int k) false
 | iface (ms : Array (String × TypeId)) : Fits (.interface ms) .iface false
 | slice (e : TypeId) : Fits (.slice e) (.slice e) false
 | struct (fs : Array Field) (l : List (Nat × TypeId)) (h : fs.toList.map (fun f=>(f.offset,f.type)) = l) : Fits (.struct fs) (.struct l) true
 | array (n : Nat) (e : TypeId) : Fits (.array n e) (.array n e) true
 | map (k e : TypeId) : Fits (.map k e) (.map k e) false
structure TyOk (P : Program) (t : TypeId) (τ : Ty) : Prop where
 info : ∃ i z,P.info? t = some i ∧ i.size = τ.size ∧ i.bytes = τ.bytes ∧ i.zero = some z ∧ z.cells.toList = τ.zero ∧ (τ.agg = true → z = .agg τ.zero.toArray)
 under : ∃ d,P.underlying t = some d ∧ Fits d τ.kind τ.agg
 zlen : τ.zero.length = τ.size
theorem TyOk.mk' {P : Program} {t : TypeId} {τ : Ty} {z : Value} {d : TypeDesc} (h : (P.info? t).map (fun i=>(i.size,i.bytes,i.zero)) = some (τ.size,τ.bytes,some z))
 (hz : z.cells.toList = τ.zero) (ha : τ.agg = true → z = .agg τ.zero.toArray) (hu : P.underlying t = some d) (hf : Fits d τ.kind τ.agg) (hl : τ.zero.length = τ.size) : TyOk P t τ:=by
 cases hi : P.info? t with
 | none=>rw [hi] at h;simp at h
 | some i=>
  rw [hi] at h
  simp only [Option.map_some,Option.some.injEq,Prod.mk.injEq] at h
  exact ⟨⟨i,z,hi,h.1,h.2.1,h.2.2,hz,ha⟩,⟨d,hu,hf⟩,hl⟩
abbrev Zk (P : Program) (tab : Tab) : Prop:=∀ t τ,tab t = some τ → TyOk P t τ
def ZuH : List (TypeId × Ty) → Tab
 | [],_=>none
 | (k,τ) :: l,t=>if t = k then some τ else ZuH l t
abbrev V.int (n : Int) : V:=.c (.int .i64 n)
abbrev V.bool (b : Bool) : V:=.c (.bool b)
def V.leaf : V → Bool
 | .c v=>v.oneCell'
 | .un | .agg _ | .tup _=>false
 | _=>true
def V.cells : V → Option (List V)
 | .agg xs=>some xs
 | x=>if x.leaf then some [x] else none
def cV : Value → V
 | .agg cs=>.agg (cs.toList.map .c)
 | .tuple cs=>.tup (cs.toList.map .c)
 | v=>.c v
def evS (t : Nat → V) : Operand → V
 | .tmp i=>t i
 | .const v=>cV v
 | .global _=>.un
 | .func f=>.fn (.func f) [] []
def wr (k : IntKind) (n : Int) : Int:=k.wrap n
def Zbx (op : BinOp) (k : IntKind) (a b : Int) : Option V:=
 match op with
 | .add=>some (.c (.int k (wr k (a + b))))
 | .sub=>some (.c (.int k (wr k (a - b))))
 | .mul=>some (.c (.int k (wr k (a * b))))
 | .quo=>if b = 0 then none else some (.c (.int k (wr k (a.tdiv b))))
 | .rem=>if b = 0 then none else some (.c (.int k (a.tmod b)))
 | .and=>some (.c (.int k (bits .and k a b)))
 | .or=>some (.c (.int k (bits .or k a b)))
 | .eql=>some (.c (.bool (decide (a = b))))
 | .neq=>some (.c (.bool (!decide (a = b))))
 | .lss=>some (.c (.bool (decide (a < b))))
 | .leq=>some (.c (.bool (decide (a ≤ b))))
 | .gtr=>some (.c (.bool (decide (b < a))))
 | .geq=>some (.c (.bool (decide (b ≤ a))))
 | _=>none
def Zbo (op : BinOp) (k : IntKind) (a b : Int) : Option V:=
 if b < 0 then none else
 match op with
 | .shl=>some (.c (.int k (wr k (a * 2 ^ (min b.toNat k.bits)))))
 | .shr=>some (.c (.int k (a.fdiv (2 ^ (min b.toNat k.bits)))))
 | _=>none
def Ztk : V → V → Option Bool
 | .c (.int k a),.c (.int k' b)=>if k = k' then some (decide (a = b)) else none
 | .c (.bool a),.c (.bool b)=>some (a == b)
 | _,_=>none
def Zto : List V → List V → Option Bool
 | [],[]=>some true
 | x :: xs,y :: ys=>(Ztk x y).bind fun b=>(Zto xs ys).bind fun c=>some (b && c)
 | _,_=>none
def Zfn (k : TK) (x : V) : Option Bool:=
 match k with
 | .slice _=>match x with
  | .c (.slice none _ _)=>some true
  | .lst _ [] _=>none
  | .lst _ (_ :: _) _=>some false
  | _=>none
 | .ptr _=>match x with
  | .c (.pointer none)=>some true
  | .p _ _ _ _=>some false
  | .q _ _=>some false
  | _=>none
 | .func=>match x with
  | .c .nilFunc=>some true
  | .fn _ _ _=>some false
  | _=>none
 | .iface=>match x with
  | .c .nilIface=>some true
  | .ifc _ _=>some false
  | _=>none
 | .map _ _=>match x with
  | .c (.map none)=>some true
  | .mp _=>some false
  | _=>none
 | _=>none
def Zim (k : Option TK) (x : V) : Option Bool:=k.bind fun k=>Zfn k x
def ZtJ (k : TK) (v : Value) : Bool:=
 match k with
 | .slice _=>match v with
  | .slice none 0 0=>true
  | _=>false
 | .ptr _=>match v with
  | .pointer none=>true
  | _=>false
 | .func=>match v with
  | .nilFunc=>true
  | _=>false
 | .iface=>match v with
  | .nilIface=>true
  | _=>false
 | .map _ _=>match v with
  | .map none=>true
  | _=>false
 | _=>false
def ZeE (k : Option TK) : Operand → Bool
 | .const v=>k.any fun k=>ZtJ k v
 | _=>false
def ZqM (tk : Option TK) (op : BinOp) (x y : V) : Option V:=
 match x,y with
 | .c (.int k a),.c (.int k' b)=>
  match op with
  | .shl | .shr=>Zbo op k a b
  | _=>if k = k' then Zbx op k a b else none
 | .c (.bool a),.c (.bool b)=>
  match op,tk with
  | .eql,some .bool=>some (.c (.bool (a == b)))
  | .neq,some .bool=>some (.c (.bool (!(a == b))))
  | _,_=>none
 | _,_=>none
def unV (op : UnOp) (x : V) : Option V:=
 match op,x with
 | .neg,.c (.int k n)=>some (.c (.int k (wr k (0 - n))))
 | .not,.c (.bool b)=>some (.c (.bool (!b)))
 | _,_=>none
def ZhY (tab : Tab) (dst : TypeId) (x : V) : Option V:=
 match (tab dst).map Ty.kind,x with
 | some (.int k),.c (.int _ n)=>some (.c (.int k (wr k n)))
 | _,_=>none
def ZbB (h : Hp) (n sz : Nat) : Option (List (List V)):=
 match h n with
 | some (.rows sz' r)=>if sz' = sz then some r else none
 | _=>none
def Zbt (h : Hp) (n sz : Nat) : Option (List (List D)):=
 match h n with
 | some (.dat sz' r)=>if sz' = sz then some r else none
 | _=>none
def YM (τ : Ty) (row : List V) (j : Nat) : Option V:=
 if τ.agg then (if j + τ.size ≤ row.length then some (.agg ((row.drop j).take τ.size)) else none) else row[j]?
def ZdL (tab : Tab) (h : Hp) (t : TypeId) (a : V) : Option V:=
 (tab t).bind fun τ=>
 match a with
 | .p n sz i j=>
  match h n with
  | some (.rows sz' r)=>if sz' = sz then (r[i]?).bind fun row=>YM τ row j else none
  | some (.dat sz' r)=>if sz' = sz then (r[i]?).bind fun row=>YM τ (row.map D.toV) j else none
  | _=>none
 | .q row j=>YM τ (row.map D.toV) j
 | _=>none
def V.toD : V → Option D
 | .c v=>if v.oneCell' = true then some (.c v) else none
 | .lst sz rows _=>some (.lst sz rows)
 | _=>none
def ZoN : List V → Option (List D)
 | []=>some []
 | x :: xs=>x.toD.bind fun d=>(ZoN xs).map fun ds=>d :: ds
def ZU {α : Type} (row : List α) (j : Nat) (xs : List α) : List α:=row.take j ++ (xs ++ row.drop (j + xs.length))
def ZaN (tab : Tab) (h : Hp) (t : TypeId) (a x : V) : Option Hp:=
 (tab t).bind fun τ=>
 match a with
 | .p n sz i j=>
  match h n with
  | some (.rows sz' r)=>
   if sz' = sz then
    (r[i]?).bind fun row=>(x.cells).bind fun xs=>
    if xs.length = τ.size ∧ j + xs.length ≤ row.length ∧ xs.all V.leaf = true then some (upd h n (some (.rows sz (r.set i (ZU row j xs))))) else none
   else none
  | some (.dat sz' r)=>
   if sz' = sz then
    (r[i]?).bind fun row=>(x.cells).bind fun xs=>(ZoN xs).bind fun ds=>
    if ds.length = τ.size ∧ j + ds.length ≤ row.length then some (upd h n (some (.dat sz (r.set i (ZU row j ds))))) else none
   else none
  | _=>none
 | _=>none
def ZeU (tab : Tab) (s : TypeId) (f : Nat) : Option (Nat × Ty):=
 (tab s).bind fun τ=>
 match τ.kind with
 | .struct fs=>(fs[f]?).bind fun p=>(tab p.2).map fun τ'=>(p.1,τ')
 | _=>none
def Qx (tab : Tab) (s : TypeId) (x : V) (f : Nat) : Option V:=
 (ZeU tab s f).bind fun p=>
 if p.2.size = 0 then none else
 match x with
 | .p n sz i j=>some (.p n sz i (j + p.1))
 | .q row j=>some (.q row (j + p.1))
 | _=>none
def Zal (tab : Tab) (s : TypeId) (x : V) (f : Nat) : Option V:=
 (ZeU tab s f).bind fun p=>
 match x with
 | .agg xs=>YM p.2 xs p.1
 | _=>none
def ZeF (tab : Tab) (t : TypeId) : Option Ty:=
 (tab t).bind fun τ=>
 match τ.kind with
 | .slice e=>tab e
 | .array _ e=>tab e
 | _=>none
def Zy (tab : Tab) (t : TypeId) : Option Ty:=
 (tab t).bind fun τ=>
 match τ.kind with
 | .slice e=>tab e
 | _=>none
def Qw (tab : Tab) (t : TypeId) (x ix : V) : Option V:=
 (tab t).bind fun τ=>(ZeF tab t).bind fun ε=>
 match τ.kind,x,ix with
 | .slice _,.sl n sz off len,.c (.int _ i)=>if ε.size = sz ∧ 0 ≤ i ∧ i < len then some (.p n sz (off + i.toNat) 0) else none
 | .slice _,.ac n sz len,.c (.int _ i)=>if ε.size = sz ∧ 0 ≤ i ∧ i < len then some (.p n sz i.toNat 0) else none
 | .slice _,.lst sz rows _,.c (.int _ i)=>if ε.size = sz ∧ 0 ≤ i ∧ i < rows.length then (rows[i.toNat]?).map fun row=>.q row 0 else none
 | .array m _,.p n sz a j,.c (.int _ i)=>if 0 ≤ i ∧ i < m then some (.p n sz a (j + i.toNat * ε.size)) else none
 | _,_,_=>none
def Ze7 (tab : Tab) (t : TypeId) (x ix : V) : Option V:=
 (tab t).bind fun τ=>(ZeF tab t).bind fun ε=>
 match τ.kind,x,ix with
 | .array m _,.agg xs,.c (.int _ i)=>if 0 ≤ i ∧ i < m then YM ε xs (i.toNat * ε.size) else none
 | _,_,_=>none
def Znz (h : Hp) (k : TK) (x : V) : Option Nat:=
 match k with
 | .slice _=>match x with
  | .sl _ _ _ len=>some len
  | .ac _ _ len=>some len
  | .lst _ rows _=>some rows.length
  | .c (.slice none 0 0)=>some 0
  | _=>none
 | .map _ _=>match x with
  | .mp n=>match h n with
   | some (.map es)=>some es.length
   | _=>none
  | _=>none
 | _=>none
def ZaJ (y dflt : Nat) : Option V → Option Nat
 | none=>some dflt
 | some (.c (.int _ i))=>if 0 ≤ i ∧ i ≤ y then some i.toNat else none
 | some _=>none
def bound (len : Nat) (lo hi : Option V) : Option (Nat × Nat):=(ZaJ len len hi).bind fun b=>(ZaJ b 0 lo).map fun a=>(a,b)
def ZbQ : Option V → Option V → Bool
 | some (.c (.int _ a)),some (.c (.int _ b))=>decide (a = b)
 | _,_=>false
def Zfr (tab : Tab) (t : TypeId) (x : V) (lo hi mx : Option V) : Option V:=
 (tab t).bind fun τ=>(ZeF tab t).bind fun ε=>
 match τ.kind,x with
 | .slice _,.sl n sz off len=>if ε.size = sz ∧ mx.isNone then (bound len lo hi).map fun (a,b)=>.sl n sz (off + a) (b - a) else none
 | .slice _,.ac n sz len=>if ε.size = sz ∧ mx.isNone then (bound len lo hi).map fun (a,b)=>.sl n sz a (b - a) else none
 | .slice _,.lst sz rows clip=>
  if ε.size = sz then
   (if mx.isNone then (bound rows.length lo hi).map fun (a,b)=>.lst sz ((rows.drop a).take (b - a)) (clip && decide (b = rows.length))
    else if ZbQ hi mx = true then (bound rows.length lo hi).map fun (a,b)=>.lst sz ((rows.drop a).take (b - a)) true else none)
  else none
 | .slice _,.c (.slice none 0 0)=>if mx.isNone ∨ ZbQ hi mx = true then (bound 0 lo hi).map fun _=>.c (.slice none 0 0) else none
 | _,_=>none
def YO (h : Hp) : V → Option (List (List V))
 | .sl n sz off len=>(ZbB h n sz).bind fun r=>if off + len ≤ r.length then some ((r.drop off).take len) else none
 | _=>none
def Q9 (h : Hp) (sz : Nat) : V → Option (List (List D))
 | .lst sz' rows _=>if sz' = sz then some rows else none
 | .c (.slice none 0 0)=>some []
 | .ac n sz' len=>if sz' = sz then (Zbt h n sz).bind fun r=>if len = r.length then some r else none else none
 | .sl n sz' off len=>if sz' = sz then (Zbt h n sz).bind fun r=>if off + len ≤ r.length then some ((r.drop off).take len) else none else none
 | _=>none
def ZmJ (size : Nat) (cells : List V) : List (Nat × V) → Option (List V)
 | []=>some cells
 | (i,x) :: rest=>(x.cells).bind fun xs=>if xs.length = size ∧ i * size + xs.length ≤ cells.length then ZmJ size (ZU cells (i * size) xs) rest else none
def ZbV (place : Nat → Option (Nat × Nat)) (cells : List V) : List (Nat × V) → Option (List V)
 | []=>some cells
 | (i,x) :: rest=>(place i).bind fun p=>(x.cells).bind fun xs=>if xs.length = p.2 ∧ p.1 + xs.length ≤ cells.length then ZbV place (ZU cells p.1 xs) rest else none
def ZgC (tab : Tab) (t : TypeId) (parts : List (Nat × V)) : Option V:=
 (tab t).bind fun τ=>
 match τ.kind with
 | .struct fs=>if (fs.all fun p=>(tab p.2).isSome) = true then (ZbV (fun i=>(fs[i]?).bind fun p=>(tab p.2).map fun τ'=>(p.1,τ'.size)) (τ.zero.map .c) parts).map .agg else none
 | .array _ e=>(tab e).bind fun ε=>(ZbV (fun i=>some (i * ε.size,ε.size)) (τ.zero.map .c) parts).map .agg
 | _=>none
def ZaW (sz : Nat) : Nat → List V → List (List V)
 | 0,_=>[]
 | n + 1,l=>l.take sz :: ZaW sz n (l.drop sz)
def Z3 : Nat → List V → List V
 | 0,_=>[]
 | n + 1,z=>z ++ Z3 n z
def ZrH : List (List V) → Option (List (List D))
 | []=>some []
 | r :: rs=>(ZoN r).bind fun d=>(ZrH rs).map fun ds=>d :: ds
def Yh (tab : Tab) (nm : Nat) (h : Hp) (t : TypeId) (len : Nat) (parts : List (Nat × V)) : Option (V × Hp):=
 (Zy tab t).bind fun ε=>
 if len * ε.size ≤ 16777216 then
  (ZbV (fun i=>some (i * ε.size,ε.size)) (Z3 len (ε.zero.map V.c)) parts).bind fun cs=>
   match ZrH (ZaW ε.size len cs) with
   | some ds=>some (.lst ε.size ds true,h)
   | none=>some (.sl nm ε.size 0 len,upd h nm (some (.rows ε.size (ZaW ε.size len cs))))
 else none
def YI (tab : Tab) (nm : Nat) (h : Hp) (t : TypeId) (s x : V) : Option (V × Hp):=
 (Zy tab t).bind fun ε=>
 if ε.bytes ≤ 4096 then
  match Q9 h ε.size x with
  | some src=>
   match s with
   | .c (.slice none 0 0)=>if src.length < 2147483648 then some (.ac nm ε.size src.length,upd h nm (some (.dat ε.size src))) else none
   | .lst sz rows clip=>
    if sz = ε.size ∧ clip = true ∧ rows.length + src.length < 2147483648 ∧ (src = [] → rows = []) then
     some (.ac nm sz (rows.length + src.length),upd h nm (some (.dat sz (rows ++ src))))
    else none
   | .ac n sz len=>
    (Zbt h n sz).bind fun r=>
    if sz = ε.size ∧ len = r.length ∧ len + src.length < 2147483648 then some (.ac nm sz (len + src.length),upd (upd h n none) nm (some (.dat sz (r ++ src)))) else none
   | .sl n sz off len=>
    (Zbt h n sz).bind fun r=>
    if sz = ε.size ∧ r ≠ [] ∧ off + len ≤ r.length ∧ len + src.length < 2147483648 then
     some (.sl nm sz 0 (len + src.length),upd (upd h n none) nm (some (.dat sz ((r.drop off).take len ++ src))))
    else none
   | _=>none
  | none=>
   (YO h x).bind fun src=>
   if src.all (fun row=>decide (row.length = ε.size) && row.all V.leaf) = true then
    match s with
    | .c (.slice none 0 0)=>if src.length < 2147483648 ∧ src ≠ [] then some (.sl nm ε.size 0 src.length,upd h nm (some (.rows ε.size src))) else none
    | .sl n sz off len=>
     (ZbB h n sz).bind fun r=>
     if sz = ε.size ∧ off + len ≤ r.length ∧ len + src.length < 2147483648 then
      some (.sl nm sz 0 (len + src.length),upd (upd h n none) nm (some (.rows sz ((r.drop off).take len ++ src))))
     else none
    | _=>none
   else none
 else none
def Zad (x : V) (h : Hp) : Option (V × Hp):=
 match x with
 | .p _ _ _ _=>some (x,h)
 | .q _ _=>some (x,h)
 | .ifc _ _=>some (x,h)
 | .fn (.func _) _ _=>some (x,h)
 | _=>none
def Zfh (tab : Tab) (t : TypeId) (x : V) (h : Hp) : Option (V × Hp):=
 match (tab t).map Ty.kind with
 | none=>none
 | some .iface=>none
 | _=>some (.ifc t x,h)
def Zbi (x : V) (i : Nat) (h : Hp) : Option (V × Hp):=
 match x with
 | .tup xs=>(xs[i]?).map fun v=>(v,h)
 | _=>none
def Zbv (tab : Tab) (op : BinOp) (t : TypeId) (y : Operand) (vx vy : V) (h : Hp) : Option (V × Hp):=
 match op,ZeE ((tab t).map Ty.kind) y with
 | .eql,true=>(Zim ((tab t).map Ty.kind) vx).map fun b=>(.bool b,h)
 | .neq,true=>(Zim ((tab t).map Ty.kind) vx).map fun b=>(.bool (!b),h)
 | _,_=>(ZqM ((tab t).map Ty.kind) op vx vy).map fun v=>(v,h)
def ZrD (lt : Int → Int → Bool) (x y : V) : Option V:=
 match x,y with
 | .c (.int k a),.c (.int k' b)=>if k = k' then some (.c (.int k (if lt b a = true then b else a))) else none
 | _,_=>none
def Zif (tab : Tab) (t : TypeId) : Bool:=
 match (tab t).map Ty.kind with
 | some (.slice _)=>true
 | _=>false
def Zdg (tab : Tab) (nm : Nat) (e : Operand → V) (h : Hp) (c : Call) : Option (V × Hp):=
 match c.callee with
 | .builtin .len=>match c.args.toList,c.argTypes.toList with
  | [x],[t]=>((tab t).bind fun τ=>Znz h τ.kind (e x)).map fun (n : Nat)=>(V.int (n : Int),h)
  | _,_=>none
 | .builtin .append=>match c.args.toList,c.argTypes.toList with
  | [s,x],[t,t']=>if Zif tab t' = true then YI tab nm h t (e s) (e x) else none
  | _,_=>none
 | .builtin .min=>match c.args.toList with
  | [x,y]=>(ZrD (fun b a=>decide (b < a)) (e x) (e y)).map fun v=>(v,h)
  | _=>none
 | .builtin .max=>match c.args.toList with
  | [x,y]=>(ZrD (fun b a=>decide (a < b)) (e x) (e y)).map fun v=>(v,h)
  | _=>none
 | _=>none
def sop (tab : Tab) (nm : Nat) (e : Operand → V) (h : Hp) : Op → Option (V × Hp)
 | .move x=>some (e x,h)
 | .assign x=>some (e x,h)
 | .alloc t=>(tab t).map fun τ=>(.p nm τ.size 0 0,upd h nm (some (.rows τ.size [τ.zero.map .c])))
 | .box _ x=>(e x).cells.map fun xs=>(.p nm xs.length 0 0,upd h nm (some (.rows xs.length [xs])))
 | .build t parts=>(ZgC tab t (parts.toList.map fun p=>(p.1,e p.2))).map fun v=>(v,h)
 | .buildSlice t len parts=>Yh tab nm h t len (parts.toList.map fun p=>(p.1,e p.2))
 | .load t a=>(ZdL tab h t (e a)).map fun v=>(v,h)
 | .store t a x=>(ZaN tab h t (e a) (e x)).map fun h'=>(.un,h')
 | .nilCheck x=>Zad (e x) h
 | .binOp op t x y _=>Zbv tab op t y (e x) (e y) h
 | .unOp op _ x=>(unV op (e x)).map fun v=>(v,h)
 | .convert src dst x=>if (tab src).isSome = true then (ZhY tab dst (e x)).map fun v=>(v,h) else none
 | .makeInterface t x=>Zfh tab t (e x) h
 | .makeFunc fn first cap=>some (.fn fn (first.toList.map e) (cap.toList.map e),h)
 | .slice t x lo hi mx=>(Zfr tab t (e x) (lo.map e) (hi.map e) (mx.map e)).map fun v=>(v,h)
 | .fieldAddr s x f=>(Qx tab s (e x) f).map fun v=>(v,h)
 | .field s x f=>(Zal tab s (e x) f).map fun v=>(v,h)
 | .indexAddr t x i=>(Qw tab t (e x) (e i)).map fun v=>(v,h)
 | .index t x i=>(Ze7 tab t (e x) (e i)).map fun v=>(v,h)
 | .extract x i=>Zbi (e x) i h
 | .call c=>Zdg tab nm e h c
 | _=>none
section
variable {P : Program} {tab : Tab}
theorem TyOk.desc {t : TypeId} {τ : Ty} (h : TyOk P t τ) : ∃ d,(∀ w,(underlying t).run P w = .ok d w) ∧ P.underlying t = some d ∧ Fits d τ.kind τ.agg:=by
 obtain ⟨d,hd,hf⟩:=h.under
 exact ⟨d,fun w=>run_underlying hd w,hd,hf⟩
theorem TyOk.sizeOf {t : TypeId} {τ : Ty} (h : TyOk P t τ) (w : World) : (sizeOf t).run P w = .ok τ.size w:=by
 obtain ⟨i,z,h1,h2,_⟩:=h.info
 simp [Go.sizeOf,typeInfo,h1,h2]
theorem TyOk.typeInfo {t : TypeId} {τ : Ty} (h : TyOk P t τ) (w : World) : ∃ i,(typeInfo t).run P w = .ok i w ∧ i.bytes = τ.bytes:=by
 obtain ⟨i,z,h1,_,h2,_⟩:=h.info
 exact ⟨i,by simp [Go.typeInfo,h1],h2⟩
theorem TyOk.isAgg {t : TypeId} {τ : Ty} (h : TyOk P t τ) (w : World) : (isAgg t).run P w = .ok τ.agg w:=by
 obtain ⟨d,hd,_,hf⟩:=h.desc
 simp only [Go.isAgg,Sem.run_bind,hd,Result.andThen_ok]
 generalize τ.kind = k at hf
 generalize τ.agg = g at hf
 cases hf with
 | leaf d h=>cases d <;> first | rfl | simp at h
 | _=>rfl
theorem TyOk.zero {t : TypeId} {τ : Ty} (h : TyOk P t τ) (w : World) : ∃ z,(zeroValue t).run P w = .ok z w ∧ z.cells = τ.zero.toArray:=by
 obtain ⟨i,z,h1,_,_,h2,h3,_⟩:=h.info
 exact ⟨z,by simp [zeroValue,Go.typeInfo,h1,h2],by rw [← h3]⟩
theorem RepV.leaf1 {A : Nat → Prop} {ids : Nat → Nat × Nat} {w : World} {x : V} {v : Value} (h : RepV A ids w x v) (hl : x.leaf = true) : v.oneCell' = true:=by
 cases h with
 | un v=>simp [V.leaf] at hl
 | c v=>exact hl
 | lst sz rows clip v h _=>cases h <;> rfl
 | agg xs arr hs h=>simp [V.leaf] at hl
 | tup xs arr hs h=>simp [V.leaf] at hl
 | ac1 n sz len v h0 h=>cases h;rfl
 | _=>rfl
theorem ZfM {v : Value} (h : v.oneCell' = true) : v.cells = #[v]:=by cases v <;> first | rfl | simp [Value.oneCell'] at h
theorem RepV.cells {A : Nat → Prop} {ids : Nat → Nat × Nat} {w : World} {x : V} {v : Value} {xs : List V} (h : RepV A ids w x v) (hx : x.cells = some xs) :
 v.cells.size = xs.length ∧ ∀ (i : Nat) (y : V) (u : Value),xs[i]? = some y → v.cells[i]? = some u → RepV A ids w y u:=by
 by_cases hl : x.leaf = true
 · have h1:=h.leaf1 hl
   have hxs : xs = [x]:=by
    cases x <;> simp [V.cells,V.leaf] at hx hl <;> simp_all
   subst hxs
   rw [ZfM h1]
   refine ⟨rfl,fun i y u hy hu=>?_⟩
   cases i with
   | zero=>simp at hy hu;subst hy;subst hu;exact h
   | succ i=>simp at hy
 · cases x with
   | agg ys=>
    simp only [V.cells,Option.some.injEq] at hx
    subst hx
    cases h with
    | agg _ arr hs hr=>exact ⟨hs,hr⟩
   | _=>simp [V.cells,V.leaf] at hx hl <;> simp_all
theorem V.cells_below {m : Nm} {x : V} {xs : List V} (hb : x.Below m) (hx : x.cells = some xs) : ∀ y ∈ xs,y.Below m:=by
 cases x with
 | agg ys=>simp only [V.cells,Option.some.injEq] at hx;subst hx;cases hb with | agg _ h=>exact h
 | un=>simp [V.cells,V.leaf] at hx
 | tup ys=>simp [V.cells,V.leaf] at hx
 | _=>
  simp only [V.cells] at hx
  split at hx
  · cases hx;intro y hy;simp at hy;subst hy;exact hb
  · cases hx
theorem Zey (w : World) {t : TypeId} {τ : Ty} (h : TyOk P t τ) (b o : Nat) (c : Nat → Value) (hc : ∀ k,k < (if τ.agg then τ.size else 1) → w.cell? ⟨b,o + k,none⟩ = some (c k)) :
 (loadVar t ⟨b,o,none⟩).run P w = .ok (if τ.agg then .agg ((List.range τ.size).map c).toArray else c 0) w:=by
 simp only [loadVar,Sem.run_bind,h.isAgg,Result.andThen_ok]
 cases ha : τ.agg with
 | true=>
  simp only [ha,if_true] at hc
  simp only [if_true,Sem.run_bind,h.sizeOf,Result.andThen_ok,ZbW P w b o τ.size c hc,Sem.run_pure]
 | false=>
  simp only [ha,Bool.false_eq_true,if_false] at hc ⊢
  have:=hc 0 (by omega)
  simp only [Nat.add_zero] at this
  simp [this]
theorem ZaC {A : Nat → Prop} {ids : Nat → Nat × Nat} {w : World} {t : TypeId} {τ : Ty} (h : TyOk P t τ) {row : List V} {j b o : Nat} {v : V} (hl : YM τ row j = some v)
 (hc : ∀ (k : Nat) (x : V),row[k]? = some x → ∃ u,w.cell? ⟨b,o + k,none⟩ = some u ∧ RepV A ids w x u) :
 ∃ val,(loadVar t ⟨b,o + j,none⟩).run P w = .ok val w ∧ RepV A ids w v val:=by
 have hcell : ∀ k,k < row.length → ∃ u,w.cell? ⟨b,o + k,none⟩ = some u ∧ ∀ x,row[k]? = some x → RepV A ids w x u:=by
  intro k hk
  obtain ⟨u,h1,h2⟩:=hc k row[k] (by simp [hk])
  exact ⟨u,h1,fun x hx=>by simp [hk] at hx;subst hx;exact h2⟩
 let c : Nat → Value:=fun k=>(w.cell? ⟨b,o + j + k,none⟩).getD default
 unfold YM at hl
 split at hl
 · next ha=>
   split at hl
   · next hsz=>
     cases hl
     refine ⟨_,Zey w h b (o + j) c ?_,?_⟩
     · intro k hk
       rw [if_pos ha] at hk
       obtain ⟨u,h1,_⟩:=hcell (j + k) (by omega)
       rw [← Nat.add_assoc] at h1
       simp [c,h1]
     · rw [if_pos ha]
       refine .agg _ _ (by simp;omega) fun i x u hx hu=>?_
       have hi : i < τ.size:=by
        have:=(List.getElem?_eq_some_iff.1 hx).1;simp at this;omega
       rw [List.getElem?_take_of_lt hi,List.getElem?_drop] at hx
       simp [hi] at hu
       obtain ⟨u',h1,h2⟩:=hc (j + i) x hx
       rw [← Nat.add_assoc] at h1
       have : c i = u':=by simp [c,h1]
       rw [← hu,this];exact h2
   · cases hl
 · next ha=>
   refine ⟨_,Zey w h b (o + j) c ?_,?_⟩
   · intro k hk
     rw [if_neg ha] at hk
     obtain rfl : k = 0:=by omega
     obtain ⟨u,h1,_⟩:=hc j v hl
     simp [c,h1]
   · rw [if_neg ha]
     obtain ⟨u',h1,h2⟩:=hc j v hl
     have : c 0 = u':=by simp [c,h1]
     rw [this];exact h2
theorem ZdE {h : Hp} {n sz : Nat} {r : List (List V)} (hr : ZbB h n sz = some r) : h n = some (.rows sz r):=by
 unfold ZbB at hr
 split at hr
 · next sz' r' e=>split at hr <;> simp_all
 · cases hr
theorem Qy {h : Hp} {n sz : Nat} {r : List (List D)} (hr : Zbt h n sz = some r) : h n = some (.dat sz r):=by
 unfold Zbt at hr
 split at hr
 · next sz' r' e=>split at hr <;> simp_all
 · cases hr
theorem QX {sz : Nat} {r : List (List D)} (h : r ≠ []) : (B.dat sz r).real = true:=by
 cases r with
 | nil=>exact absurd rfl h
 | cons _ _=>rfl
theorem Y7 (r : List (List D)) (i : Nat) : (YG r)[i]? = (r[i]?).map fun row=>row.map D.toV:=by simp [YG]
theorem RepR.cell {A : Nat → Prop} {ids : Nat → Nat × Nat} {w : World} {p : Nat × Nat} {sz i j : Nat} {r : List (List V)} {row : List V} {x : V} (h : RepR A ids w p sz r)
 (hi : r[i]? = some row) (hj : row[j]? = some x) : ∃ u,w.cell? ⟨p.1,p.2 + (i * sz + j),none⟩ = some u ∧ RepV A ids w x u:=by
 obtain ⟨arr,T,h1,_,_,h4⟩:=h
 obtain ⟨v,hv,hr⟩:=h4 i row j x hi hj
 exact ⟨v,by rw [ZbT h1];exact hv,hr⟩
theorem RepH.cell {F : Nat → Prop} {ids : Nat → Nat × Nat} {w : World} {h : Hp} {nx : Nm} (hh : RepH F ids w h nx) {n sz i j : Nat} {r : List (List V)} {row : List V} {x : V} (hn : h n = some (.rows sz r))
 (hi : r[i]? = some row) (hj : row[j]? = some x) : ∃ u,w.cell? ⟨(ids n).1,(ids n).2 + (i * sz + j),none⟩ = some u ∧ RepV (Ze F h ids) ids w x u:=
 RepR.cell (hh.blk n _ hn) hi hj
theorem RepH.cellD {F : Nat → Prop} {ids : Nat → Nat × Nat} {w : World} {h : Hp} {nx : Nm} (hh : RepH F ids w h nx) {n sz i j : Nat} {r : List (List D)} {row : List D} {x : V} (hn : h n = some (.dat sz r))
 (hi : r[i]? = some row) (hj : (row.map D.toV)[j]? = some x) : ∃ u,w.cell? ⟨(ids n).1,(ids n).2 + (i * sz + j),none⟩ = some u ∧ RepV (Ze F h ids) ids w x u:=
 RepR.cell ((hh.blk n _ hn).1 (by rintro rfl;simp at hi)) (row:=row.map D.toV) (by rw [Y7,hi];rfl) hj
theorem ZdP (ht : Zk P tab) {F : Nat → Prop} {ids : Nat → Nat × Nat} {w : World} {h : Hp} {nx : Nm} (hh : RepH F ids w h nx) {t : TypeId} {a v : V} {va : Value}
 (ha : RepV (Ze F h ids) ids w a va) (hl : ZdL tab h t a = some v) :
 ∃ val,(Instr.loadAt t va).run P w = .ok val w ∧ RepV (Ze F h ids) ids w v val ∧ v.Below nx:=by
 unfold ZdL at hl
 rw [Option.bind_eq_some_iff] at hl
 obtain ⟨τ,hτ,hl⟩:=hl
 have hbel : ∀ (row : List V) (j : Nat),(∀ x ∈ row,x.Below nx) → YM τ row j = some v → v.Below nx:=by
  intro row j hb hl
  unfold YM at hl
  split at hl
  · split at hl
    · cases hl;exact .agg _ fun x hx=>hb x (List.mem_of_mem_drop (List.mem_of_mem_take hx))
    · cases hl
  · exact hb v (List.mem_of_getElem? hl)
 cases a with
 | p n sz i j=>
  cases ha
  dsimp only at hl
  split at hl
  · next sz' r hn=>
    split at hl
    case isFalse=>cases hl
    next hsz=>
    subst hsz
    rw [Option.bind_eq_some_iff] at hl
    obtain ⟨row,hi,hl⟩:=hl
    obtain ⟨val,h1,h2⟩:=ZaC (b:=(ids n).1) (o:=(ids n).2 + i * sz') (ht t τ hτ) hl (fun k x hx=>by
     obtain ⟨u,h1,h2⟩:=hh.cell hn hi hx
     exact ⟨u,by rw [Nat.add_assoc];exact h1,h2⟩)
    refine ⟨val,?_,h2,hbel row j (fun x hx=>hh.below n _ hn row (List.mem_of_getElem? hi) x hx) hl⟩
    rw [Nat.add_assoc] at h1
    simp only [Instr.loadAt,Instr.sureAddr,Sem.run_bind,Sem.run_pure,Result.andThen_ok,h1]
  · next sz' r hn=>
    split at hl
    case isFalse=>cases hl
    next hsz=>
    subst hsz
    rw [Option.bind_eq_some_iff] at hl
    obtain ⟨row,hi,hl⟩:=hl
    obtain ⟨val,h1,h2⟩:=ZaC (b:=(ids n).1) (o:=(ids n).2 + i * sz') (ht t τ hτ) hl (fun k x hx=>by
     obtain ⟨u,h1,h2⟩:=hh.cellD hn hi hx
     exact ⟨u,by rw [Nat.add_assoc];exact h1,h2⟩)
    refine ⟨val,?_,h2,hbel (row.map D.toV) j (fun x hx=>by obtain ⟨d,_,rfl⟩:=List.mem_map.1 hx;exact d.toV_below nx) hl⟩
    rw [Nat.add_assoc] at h1
    simp only [Instr.loadAt,Instr.sureAddr,Sem.run_bind,Sem.run_pure,Result.andThen_ok,h1]
  · cases hl
 | q row j=>
  cases ha with
  | q _ _ b o cell hb hA hc hd=>
   obtain ⟨val,h1,h2⟩:=ZaC (A:=Ze F h ids) (ids:=ids) (w:=w) (b:=b) (o:=o) (ht t τ hτ) hl (fun k x hx=>by
    rw [List.getElem?_map,Option.map_eq_some_iff] at hx
    obtain ⟨d,hd',rfl⟩:=hx
    exact ⟨_,hc k d hd',(hd k d hd').toV⟩)
   refine ⟨val,?_,h2,hbel _ j (fun x hx=>by simp at hx;obtain ⟨d,_,rfl⟩:=hx;exact d.toV_below nx) hl⟩
   simp only [Instr.loadAt,Instr.sureAddr,Sem.run_bind,Sem.run_pure,Result.andThen_ok,h1]
 | _=>simp at hl
theorem ZdF {α : Type} (row : List α) (j : Nat) (xs : List α) (k : Nat) (h : j + xs.length ≤ row.length) :
 (ZU row j xs)[k]? = if j ≤ k ∧ k < j + xs.length then xs[k - j]? else row[k]?:=by
 unfold ZU
 by_cases h1 : k < j
 · rw [if_neg (by omega),List.getElem?_append_left (by simp;omega),List.getElem?_take_of_lt h1]
 · rw [List.getElem?_append_right (by simp;omega)]
   simp only [List.length_take]
   rw [show min j row.length = j by omega]
   by_cases h2 : k < j + xs.length
   · rw [if_pos (by omega),List.getElem?_append_left (by omega)]
   · rw [if_neg (by omega),List.getElem?_append_right (by omega),List.getElem?_drop]
     congr 1;omega
theorem Q7 {α : Type} (row : List α) (j : Nat) (xs : List α) (h : j + xs.length ≤ row.length) : (ZU row j xs).length = row.length:=by
 unfold ZU;simp;omega
theorem ZbS {α : Type} {row : List α} {j : Nat} {xs : List α} {x : α} (h : x ∈ ZU row j xs) : x ∈ row ∨ x ∈ xs:=by
 unfold ZU at h
 simp only [List.mem_append] at h
 rcases h with h | h | h
 · exact .inl (List.mem_of_mem_take h)
 · exact .inr h
 · exact .inl (List.mem_of_mem_drop h)
theorem Zlg {i i' sz j j' : Nat} (h : i ≠ i') (hj : j < sz) (hj' : j' < sz) : i * sz + j ≠ i' * sz + j':=by
 intro e
 rcases Nat.lt_or_gt_of_ne h with h | h
 · have : (i + 1) * sz ≤ i' * sz:=Nat.mul_le_mul_right _ h
   rw [Nat.add_mul] at this;omega
 · have : (i' + 1) * sz ≤ i * sz:=Nat.mul_le_mul_right _ h
   rw [Nat.add_mul] at this;omega
theorem ZgN {i sz j n : Nat} (h : i < n) (hj : j < sz) : i * sz + j < n * sz:=by
 have : (i + 1) * sz ≤ n * sz:=Nat.mul_le_mul_right _ h
 rw [Nat.add_mul] at this;omega
theorem Chg.storeRow {F : Nat → Prop} {ids : Nat → Nat × Nat} {w : World} {h : Hp} {nx : Nm} {n sz i j : Nat} (hh : RepH F ids w h nx) {r : List (List V)} {row : List V} {xs : List V} {vs : List Value}
 (hn : h n = some (.rows sz r)) (hi : r[i]? = some row) (hj : j + xs.length ≤ row.length) (hlen : vs.length = xs.length) (hx : ∀ (k : Nat) (x : V) (v : Value),xs[k]? = some x → vs[k]? = some v → RepV (Ze F h ids) ids w x v)
 (hb : ∀ x ∈ xs,x.Below nx) (hone : ∀ v ∈ vs,v.oneCell' = true) :
 ∃ w',(storeCells ⟨(ids n).1,(ids n).2 + (i * sz + j),none⟩ vs).run P w = .ok () w' ∧ Chg F ids w h nx ids w' (upd h n (some (.rows sz (r.set i (ZU row j xs))))) nx:=by
 obtain ⟨arr,T,h1,h2,h3,h4⟩:=hh.blk n _ hn
 have hil:=(List.getElem?_eq_some_iff.1 hi).1
 have hrow:=h3 row (List.mem_of_getElem? hi)
 have hin : i * sz + row.length ≤ r.length * sz:=by
  have : (i + 1) * sz ≤ r.length * sz:=Nat.mul_le_mul_right _ hil
  rw [Nat.add_mul] at this;omega
 have hrun:=Q6 P (ids n).1 T vs hone w ((ids n).2 + (i * sz + j)) 0 arr h1 (by omega)
 by_cases hv : vs = []
 · subst hv
   have hxs : xs = []:=List.length_eq_zero_iff.1 (by simpa using hlen.symm)
   subst hxs
   refine ⟨w,by simpa using hrun,?_⟩
   have hs : r.set i (ZU row j []) = r:=by
    have : ZU row j [] = row:=by simp [ZU]
    rw [this];exact List.set_getElem_self hil ▸ by rw [List.getElem?_eq_some_iff] at hi;obtain ⟨_,e⟩:=hi;rw [← e];simp
   rw [hs]
   have hu : upd h n (some (.rows sz r)) = h:=by funext m;unfold upd;split <;> simp_all
   rw [hu]
   exact Chg.refl hh
 · rw [if_neg hv] at hrun
   refine ⟨_,hrun,?_⟩
   refine Chg.write hh hn rfl _ _ h1 (fun arr' T' fz e=>by cases e;exact ⟨_,rfl,Y5 _ _ _⟩) (fun es k e=>by cases e) ?_ ?_
   · intro row' hr' x hx'
     rcases List.mem_or_eq_of_mem_set hr' with hr' | rfl
     · exact hh.below n _ hn row' hr' x hx'
     · rcases ZbS hx' with hx' | hx'
       · exact hh.below n _ hn row (List.mem_of_getElem? hi) x hx'
       · exact hb x hx'
   · intro A hA
     have hgo : Goes (Ze F h ids) w (World.put w (ids n).1 (.cells (splice arr ((ids n).2 + (i * sz + j) + 0) vs) T (0,0))):=by
      refine ⟨Nat.le_of_eq (Zbk _ _ _).symm,fun c _ hc=>Zz _ _ _ _ fun e=>hc (.inr ⟨n,_,hn,rfl,e.symm⟩),fun c arr' T' fz hc=>?_,fun c es k hc=>?_,⟨rfl,rfl⟩,fun a=>?_⟩
      · by_cases e : c = (ids n).1
        · subst e
          rw [h1] at hc;cases hc
          exact ⟨_,ZQ _ _ _ (Array.getElem?_eq_some_iff.1 h1).1,Y5 _ _ _⟩
        · exact ⟨arr',by rw [Zz _ _ _ _ e];exact hc,rfl⟩
      · by_cases e : c = (ids n).1
        · subst e;rw [h1] at hc;cases hc
        · exact ⟨es,k,by rw [Zz _ _ _ _ e];exact hc⟩
      · by_cases e : a.block = (ids n).1
        · exact QP (by rw [e];exact h1) (by rw [e,ZQ _ _ _ (Array.getElem?_eq_some_iff.1 h1).1])
        · exact YZ (Zz _ _ _ _ e)
     refine ⟨_,T,ZQ _ _ _ (Array.getElem?_eq_some_iff.1 h1).1,by rw [Y5];simpa using h2,?_,?_⟩
     · intro row' hr'
       rcases List.mem_or_eq_of_mem_set hr' with hr' | rfl
       · exact h3 row' hr'
       · rw [Q7 _ _ _ hj];exact hrow
     · intro i' row' j' x hi' hj'
       rw [Zbj _ _ _ _ (by omega)]
       by_cases e : i' = i
       · subst e
         rw [List.getElem?_set_self hil] at hi'
         cases hi'
         rw [ZdF _ _ _ _ hj] at hj'
         by_cases hk : j ≤ j' ∧ j' < j + xs.length
         · rw [if_pos hk] at hj'
           rw [if_pos (by omega)]
           have hkl : j' - j < vs.length:=by omega
           refine ⟨vs[j' - j],by rw [show (ids n).2 + (i' * sz + j') - ((ids n).2 + (i' * sz + j) + 0) = j' - j by omega];simp [hkl],?_⟩
           exact (hx (j' - j) x _ hj' (by simp [hkl])).mono hgo hA (fun _ _=>rfl) (hb x (List.mem_of_getElem? hj'))
         · rw [if_neg hk] at hj'
           rw [if_neg (by omega)]
           obtain ⟨v,hv',hr'⟩:=h4 i' row j' x hi hj'
           exact ⟨v,hv',hr'.mono hgo hA (fun _ _=>rfl) (hh.below n _ hn row (List.mem_of_getElem? hi) x (List.mem_of_getElem? hj'))⟩
       · rw [List.getElem?_set_ne (Ne.symm e)] at hi'
         have hrow':=h3 row' (List.mem_of_getElem? hi')
         have hjl:=(List.getElem?_eq_some_iff.1 hj').1
         have hap : ∀ k,k < vs.length → i' * sz + j' ≠ i * sz + (j + k):=fun k hk=>Zlg e (by omega) (by omega)
         rw [if_neg (by
          rintro ⟨a1,a2⟩
          exact hap (i' * sz + j' - (i * sz + j)) (by omega) (by omega))]
         obtain ⟨v,hv',hr'⟩:=h4 i' row' j' x hi' hj'
         exact ⟨v,hv',hr'.mono hgo hA (fun _ _=>rfl) (hh.below n _ hn row' (List.mem_of_getElem? hi') x (List.mem_of_getElem? hj'))⟩
theorem Zdx : ∀ {xs : List V} {ds : List D},ZoN xs = some ds → ds.length = xs.length ∧ (∀ x ∈ xs,x.leaf = true) ∧ ∀ (k : Nat) (x : V) (d : D),xs[k]? = some x → ds[k]? = some d → x.toD = some d
 | [],ds,h=>by simp only [ZoN,Option.some.injEq] at h;subst h;exact ⟨rfl,by simp,by simp⟩
 | x :: xs,ds,h=>by
  simp only [ZoN,Option.bind_eq_some_iff,Option.map_eq_some_iff] at h
  obtain ⟨d,hd,ds',hds,rfl⟩:=h
  obtain ⟨h1,h2,h3⟩:=Zdx hds
  refine ⟨by simp [h1],fun y hy=>?_,fun k y e hy he=>?_⟩
  · rcases List.mem_cons.1 hy with rfl | hy
    · cases y with
      | c v=>simp only [V.toD] at hd;split at hd;assumption;cases hd
      | lst sz rows cl=>rfl
      | _=>cases hd
    · exact h2 y hy
  · cases k with
    | zero=>simp at hy he;subst hy;subst he;exact hd
    | succ k=>exact h3 k y e (by simpa using hy) (by simpa using he)
theorem Zpj {x : V} {d : D} (hd : x.toD = some d) : d.leaf = true:=by
 cases x with
 | c u=>simp only [V.toD] at hd;split at hd;(next h1=>cases hd;exact h1);cases hd
 | lst sz rows cl=>cases hd;rfl
 | _=>cases hd
theorem ZmQ {A : Nat → Prop} {ids : Nat → Nat × Nat} {w : World} {x : V} {d : D} {v : Value} (hd : x.toD = some d) (h : RepV A ids w x v) : RepD A w d v:=by
 cases x with
 | c u=>simp only [V.toD] at hd;split at hd;(next h1=>cases hd;cases h;exact .c _ h1);cases hd
 | lst sz rows cl=>cases hd;cases h with | lst _ _ _ _ h _=>exact h
 | _=>cases hd
theorem Zgt (ht : Zk P tab) {F : Nat → Prop} {ids : Nat → Nat × Nat} {w : World} {h h' : Hp} {nx : Nm} (hh : RepH F ids w h nx) {t : TypeId} {a x : V} {va vx : Value}
 (ha : RepV (Ze F h ids) ids w a va) (hx : RepV (Ze F h ids) ids w x vx) (hb : x.Below nx) (hl : ZaN tab h t a x = some h') :
 ∃ w',(Instr.storeAt t va vx).run P w = .ok () w' ∧ Chg F ids w h nx ids w' h' nx:=by
 unfold ZaN at hl
 rw [Option.bind_eq_some_iff] at hl
 obtain ⟨τ,hτ,hl⟩:=hl
 cases a with
 | p n sz i j=>
  dsimp only at hl
  split at hl
  · next sz' r hr=>
    split at hl
    case isFalse=>cases hl
    next hsz=>
    subst hsz
    simp only [Option.bind_eq_some_iff] at hl
    obtain ⟨row,hi,xs,hxs,hl⟩:=hl
    split at hl
    · next hc=>
      cases hl
      cases ha
      obtain ⟨c1,c2,c3⟩:=hc
      obtain ⟨s1,s2⟩:=hx.cells hxs
      have hone : ∀ v ∈ vx.cells.toList,v.oneCell' = true:=by
       intro v hv
       obtain ⟨k,hk,rfl⟩:=List.getElem_of_mem hv
       have hk' : k < xs.length:=by simpa [s1] using hk
       have hleaf : (xs[k]).leaf = true:=List.all_eq_true.1 c3 _ (List.getElem_mem hk')
       exact (s2 k xs[k] _ (by simp [hk']) (by simp at hk;simp [hk])).leaf1 hleaf
      obtain ⟨w',h1,h2⟩:=Chg.storeRow (P:=P) hh hr hi c2 (vs:=vx.cells.toList) (by simpa using s1) (fun k y v hy hv=>s2 k y v hy (by simpa using hv)) (V.cells_below hb hxs) hone
      refine ⟨w',?_,h2⟩
      simp only [Instr.storeAt,Instr.sureAddr,Sem.run_bind,Sem.run_pure,Result.andThen_ok,storeVar,(ht t τ hτ).sizeOf,s1,c1,ne_eq,not_true_eq_false,if_false,Sem.run_pure,h1]
    · cases hl
  · next sz' r hr=>
    split at hl
    case isFalse=>cases hl
    next hsz=>
    subst hsz
    simp only [Option.bind_eq_some_iff] at hl
    obtain ⟨row,hi,xs,hxs,ds,hds,hl⟩:=hl
    split at hl
    case isFalse=>cases hl
    next hc=>
    cases hl
    cases ha
    obtain ⟨c1,c2⟩:=hc
    obtain ⟨t1,t2,t3⟩:=Zdx hds
    obtain ⟨s1,s2⟩:=hx.cells hxs
    have hone : ∀ v ∈ vx.cells.toList,v.oneCell' = true:=by
     intro v hv
     obtain ⟨k,hk,rfl⟩:=List.getElem_of_mem hv
     have hk' : k < xs.length:=by simpa [s1] using hk
     exact (s2 k xs[k] _ (by simp [hk']) (by simp at hk;simp [hk])).leaf1 (t2 _ (List.getElem_mem hk'))
    have hre : (B.dat sz' r).real = true:=QX (by rintro rfl;simp at hi)
    have hsee:=Chg.see hh hr hre
    obtain ⟨w',h1,h2⟩:=Chg.storeRow (P:=P) (n:=n) (sz:=sz') (i:=i) (j:=j) (r:=YG r) (row:=row.map D.toV) (xs:=ds.map D.toV) hsee.heap (Zb _ _ _) (by rw [Y7,hi];rfl) (by simpa using c2) (vs:=vx.cells.toList) (by simp [s1,t1])
     (fun k y v hy hv=>by
      rw [List.getElem?_map,Option.map_eq_some_iff] at hy
      obtain ⟨d,hd,rfl⟩:=hy
      have hk : k < xs.length:=by rw [← t1];exact (List.getElem?_eq_some_iff.1 hd).1
      have hxk : xs[k]? = some xs[k]:=by simp [hk]
      exact (ZmQ (t3 k _ d hxk hd) (hsee.rep (s2 k _ v hxk (by simpa using hv)) (V.cells_below hb hxs _ (List.getElem_mem hk)))).toV)
     (fun y hy=>by obtain ⟨d,_,rfl⟩:=List.mem_map.1 hy;exact d.toV_below nx) hone
    have hrow : (YG r).set i (ZU (row.map D.toV) j (ds.map D.toV)) = YG (r.set i (ZU row j ds)):=by
     unfold YG ZU
     rw [List.map_set]
     simp
    rw [hrow] at h2
    have hlv : leaves (r.set i (ZU row j ds)):=by
     have h0:=(hh.blk n _ hr).2
     intro row' hr'
     rcases List.mem_or_eq_of_mem_set hr' with hr' | rfl
     · exact h0 row' hr'
     · rw [List.all_eq_true]
       intro d hd
       rcases ZbS hd with hd | hd
       · exact List.all_eq_true.1 (h0 row (List.mem_of_getElem? hi)) d hd
       · obtain ⟨k,hk⟩:=List.getElem?_of_mem hd
         have hk' : k < xs.length:=by rw [← t1];exact (List.getElem?_eq_some_iff.1 hk).1
         exact Zpj (t3 k _ d (by simp [hk'] : xs[k]? = some xs[k]) hk)
    have h3:=Chg.unsee (n:=n) (sz:=sz') (r:=r.set i (ZU row j ds)) h2.heap (Zb _ _ _) hlv
    have e : ∀ (b1 b2 b3 : Option B),upd (upd (upd h n b1) n b2) n b3 = upd h n b3:=fun b1 b2 b3=>by funext m;unfold upd;split <;> rfl
    have h4:=(hsee.trans h2).trans h3
    rw [e] at h4
    refine ⟨w',?_,h4⟩
    simp only [Instr.storeAt,Instr.sureAddr,Sem.run_bind,Sem.run_pure,Result.andThen_ok,storeVar,(ht t τ hτ).sizeOf,s1,← t1,c1,ne_eq,not_true_eq_false,if_false,Sem.run_pure,h1]
  · cases hl
 | _=>simp at hl
end
section
variable {P : Program} {tab : Tab}
def OpOk (F : Nat → Prop) (ids : Nat → Nat × Nat) (w : World) (h : Hp) (nx : Nm) (r : Result Next) (v : V) (h' : Hp) (nx' : Nm) : Prop:=
 ∃ val w' ids',(r = .ok (.value val) w' ∨ (r = .ok .skip w' ∧ val = undef)) ∧ Chg F ids w h nx ids' w' h' nx' ∧ RepV (Ze F h' ids') ids' w' v val ∧ v.Below nx'
theorem OpOk.still {F : Nat → Prop} {ids : Nat → Nat × Nat} {w : World} {h : Hp} {nx nx' : Nm} {r : Result Next} {v : V} {val : Value} (hh : RepH F ids w h nx) (hn : nx.le nx') (hr : r = .ok (.value val) w)
 (hv : RepV (Ze F h ids) ids w v val) (hb : v.Below nx) : OpOk F ids w h nx r v h nx':=
 ⟨val,w,ids,.inl hr,Chg.skip hh hn,hv,hb.mono hn⟩
theorem ZpR (A : Nat → Prop) (ids : Nat → Nat × Nat) (w : World) (v : Value) : RepV A ids w (cV v) v:=by
 cases v with
 | agg cs=>
  refine .agg _ _ (by simp) fun i x u hx hu=>?_
  rw [List.getElem?_map,Array.getElem?_toList,hu] at hx
  simp at hx;subst hx;exact .c u
 | tuple cs=>
  refine .tup _ _ (by simp) fun i x u hx hu=>?_
  rw [List.getElem?_map,Array.getElem?_toList,hu] at hx
  simp at hx;subst hx;exact .c u
 | _=>exact .c _
theorem Zi6 (m : Nm) (v : Value) : (cV v).Below m:=by
 cases v with
 | agg cs=>exact .agg _ fun x hx=>by simp at hx;obtain ⟨u,_,rfl⟩:=hx;exact .c _
 | tuple cs=>exact .tup _ fun x hx=>by simp at hx;obtain ⟨u,_,rfl⟩:=hx;exact .c _
 | _=>exact .c _
theorem Chg.newRows {F : Nat → Prop} {ids : Nat → Nat × Nat} {w : World} {h : Hp} {nx : Nm} {nm : Nat} (hh : RepH F ids w h nx) (hn : ¬ nx nm) (T : TypeId) (sz : Nat) (r : List (List V)) (arr : Array Value)
 (hlen : r.length * sz ≤ arr.size) (hw : ∀ row ∈ r,row.length = sz) (hb : ∀ row ∈ r,∀ x ∈ row,x.Below nx)
 (hr : ∀ (i : Nat) (row : List V) (j : Nat) (x : V),r[i]? = some row → row[j]? = some x → ∃ v,arr[i * sz + j]? = some v ∧ RepV (Ze F h ids) ids w x v) :
 Chg F ids w h nx (upd ids nm (w.heap.size,0)) (w.alloc (.cells arr T)) (upd h nm (some (.rows sz r))) (nx.add nm):=by
 refine Chg.new hh hn _ _ hb fun ids' A h1 h2=>?_
 refine ⟨arr,T,Yx _ _,by simpa using hlen,hw,fun i row j x hi hj=>?_⟩
 obtain ⟨v,hv,hrep⟩:=hr i row j x hi hj
 exact ⟨v,by simpa using hv,hrep.mono (Goes.alloc _ _ _) h2 h1 (hb row (List.mem_of_getElem? hi) x (List.mem_of_getElem? hj))⟩
theorem Chg.newVar {F : Nat → Prop} {ids : Nat → Nat × Nat} {w : World} {h : Hp} {nx : Nm} {nm : Nat} (hh : RepH F ids w h nx) (hn : ¬ nx nm) (T : TypeId) (xs : List V) (arr : Array Value) (hs : arr.size = xs.length)
 (hb : ∀ x ∈ xs,x.Below nx) (hr : ∀ (i : Nat) (x : V) (v : Value),xs[i]? = some x → arr[i]? = some v → RepV (Ze F h ids) ids w x v) :
 Chg F ids w h nx (upd ids nm (w.heap.size,0)) (w.alloc (.cells arr T)) (upd h nm (some (.rows xs.length [xs]))) (nx.add nm):=by
 refine Chg.newRows hh hn T xs.length [xs] arr (by simp [hs]) (by simp) (by simpa using hb) fun i row j x hi hj=>?_
 cases i with
 | zero=>
  simp at hi;subst hi
  have hjl:=(List.getElem?_eq_some_iff.1 hj).1
  exact ⟨arr[j],by simp,hr j x _ hj (by simp)⟩
 | succ i=>simp at hi
theorem OpOk.made {F : Nat → Prop} {ids ids' : Nat → Nat × Nat} {w w' : World} {h h' : Hp} {nx : Nm} {nm : Nat} {v : V} {val : Value} (hc : Chg F ids w h nx ids' w' h' (nx.add nm)) {r : Result Next}
 (hr : r = .ok (.value val) w') (hv : RepV (Ze F h' ids') ids' w' v val) (hb : v.Below (nx.add nm)) : OpOk F ids w h nx r v h' (nx.add nm):=
 ⟨val,w',ids',.inl hr,hc,hv,hb⟩
theorem Zh8 (ht : Zk P tab) {F : Nat → Prop} {ids : Nat → Nat × Nat} {w : World} {h : Hp} {nx : Nm} {nm : Nat} (hh : RepH F ids w h nx) (hn : ¬ nx nm) {t : TypeId} {τ : Ty} (hτ : tab t = some τ) :
 OpOk F ids w h nx ((do pure (Next.value (← Instr.alloc t true (.tuple #[]))) : Sem Next).run P w) (.p nm τ.size 0 0) (upd h nm (some (.rows τ.size [τ.zero.map .c]))) (nx.add nm):=by
 obtain ⟨z,hz,hzc⟩:=(ht t τ hτ).zero w
 have hl:=(ht t τ hτ).zlen
 have hc:=Chg.newVar hh hn t (τ.zero.map .c) z.cells (by rw [hzc];simp) (by simp only [List.mem_map];rintro x ⟨v,_,rfl⟩;exact .c v) (fun i x v hx hv=>by
  rw [hzc] at hv
  rw [List.getElem?_map] at hx
  simp at hv;rw [hv] at hx;simp at hx;subst hx;exact .c v)
 rw [List.length_map,hl] at hc
 refine OpOk.made (val:=.pointer (some ⟨w.heap.size,0,none⟩)) hc ?_ ?_ (.p _ _ _ _ (.inr rfl))
 · simp only [Sem.run_bind,Instr.alloc,hz,Result.andThen_ok,newVar,newRow,run_newObj,Sem.run_pure];rfl
 · have:=RepV.p (A:=Ze F (upd h nm (some (.rows τ.size [τ.zero.map .c]))) (upd ids nm (w.heap.size,0))) (ids:=upd ids nm (w.heap.size,0)) (w:=w.alloc (.cells z.cells t)) nm τ.size 0 0
   simpa [Zb] using this
theorem Znj {F : Nat → Prop} {ids : Nat → Nat × Nat} {w : World} {h : Hp} {nx : Nm} {nm : Nat} (hh : RepH F ids w h nx) (hn : ¬ nx nm) {t : TypeId} {x : V} {vx : Value} {xs : List V}
 (hx : RepV (Ze F h ids) ids w x vx) (hb : x.Below nx) (hxs : x.cells = some xs) :
 OpOk F ids w h nx ((do pure (Next.value (← Instr.box t vx)) : Sem Next).run P w) (.p nm xs.length 0 0) (upd h nm (some (.rows xs.length [xs]))) (nx.add nm):=by
 obtain ⟨s1,s2⟩:=hx.cells hxs
 have hc:=Chg.newVar hh hn t xs vx.cells s1 (V.cells_below hb hxs) s2
 refine OpOk.made (val:=.pointer (some ⟨w.heap.size,0,none⟩)) hc ?_ ?_ (.p _ _ _ _ (.inr rfl))
 · simp only [Sem.run_bind,Instr.box,newVar,newRow,run_newObj,Result.andThen_ok,Sem.run_pure];rfl
 · have:=RepV.p (A:=Ze F (upd h nm (some (.rows xs.length [xs]))) (upd ids nm (w.heap.size,0))) (ids:=upd ids nm (w.heap.size,0)) (w:=w.alloc (.cells vx.cells t)) nm xs.length 0 0
   simpa [Zb] using this
theorem Zrh (a b : Int) : (a == b) = decide (a = b):=by rw [Bool.eq_iff_iff];simp
theorem Zp5 (a b : Int) : (a != b) = !decide (a = b):=by rw [Bool.eq_iff_iff];simp
theorem ZnU {op : BinOp} {k : IntKind} {a b : Int} {v : V} (h : Zbx op k a b = some v) (hne : op ≠ .shl ∧ op ≠ .shr) (t : TypeId) (w : World) :
 ∃ u,v = .c u ∧ (binOp op t (.int k a) (.int k b)).run P w = .ok u w:=by
 cases op
 case quo=>simp only [Zbx] at h;split at h;(· cases h);next hb=>cases h;exact ⟨_,rfl,by simp [binOp,Op.intDiv,hb,wr]⟩
 case rem=>simp only [Zbx] at h;split at h;(· cases h);next hb=>cases h;exact ⟨_,rfl,by simp [binOp,Op.intDiv,hb]⟩
 case eql=>simp only [Zbx,Option.some.injEq] at h;subst h;exact ⟨_,rfl,by simp only [binOp,Op.intCmp,ne_eq,not_true_eq_false,if_false,Sem.run_pure,Zrh]⟩
 case neq=>simp only [Zbx,Option.some.injEq] at h;subst h;exact ⟨_,rfl,by simp only [binOp,Op.intCmp,ne_eq,not_true_eq_false,if_false,Sem.run_pure,Zp5]⟩
 case shl=>exact absurd rfl hne.1
 case shr=>exact absurd rfl hne.2
 all_goals simp only [Zbx,Option.some.injEq,reduceCtorEq] at h
 all_goals (subst h;exact ⟨_,rfl,by simp [binOp,Op.intArith,Op.intBits,Op.intCmp,bits,wr]⟩)
theorem ZdC {op : BinOp} {k k' : IntKind} {a b : Int} {v : V} (h : Zbo op k a b = some v) (t : TypeId) (w : World) :
 ∃ u,v = .c u ∧ (binOp op t (.int k a) (.int k' b)).run P w = .ok u w:=by
 unfold Zbo at h
 split at h
 · cases h
 · next hb=>cases op <;> simp at h <;> (subst h;exact ⟨_,rfl,by simp [binOp,Op.shift,hb,wr]⟩)
theorem Zh3 (op : BinOp) (t : TypeId) (x y : Operand) (k k' : IntKind) (a b : Int) (w : World) : (eqGuard op t x y (.int k a) (.int k' b)).run P w = .ok () w:=by
 unfold eqGuard;cases op <;> rfl
theorem ZgX (op : BinOp) (t : TypeId) (x y : Operand) (a b : Bool) (w : World) : (eqGuard op t x y (.bool a) (.bool b)).run P w = .ok () w:=by
 unfold eqGuard;cases op <;> rfl
theorem Qc (ht : Zk P tab) {t : TypeId} {k : TK} (h : (tab t).map Ty.kind = some k) : ∃ d g,(∀ w,(underlying t).run P w = .ok d w) ∧ P.underlying t = some d ∧ Fits d k g:=by
 rw [Option.map_eq_some_iff] at h
 obtain ⟨τ,hτ,rfl⟩:=h
 obtain ⟨d,h1,h2,h3⟩:=(ht t τ hτ).desc
 exact ⟨d,_,h1,h2,h3⟩
theorem Zkz (ht : Zk P tab) {op : BinOp} {t : TypeId} {x y : V} {v : V} {A : Nat → Prop} {ids : Nat → Nat × Nat} {w : World} {vx vy : Value} (hx : RepV A ids w x vx) (hy : RepV A ids w y vy)
 (h : ZqM ((tab t).map Ty.kind) op x y = some v) (ox oy : Operand) :
 ∃ u,v = .c u ∧ (do eqGuard op t ox oy vx vy;binOp op t vx vy).run P w = .ok u w:=by
 unfold ZqM at h
 split at h
 · next k a k' b=>
   cases hx;cases hy
   simp only [Sem.run_bind,Zh3,Result.andThen_ok]
   split at h
   · exact ZdC h t w
   · exact ZdC h t w
   · next h1 h2=>
     split at h
     · next e=>subst e;exact ZnU h ⟨fun e=>by subst e;exact h1 rfl,fun e=>by subst e;exact h2 rfl⟩ t w
     · cases h
 · next a b=>
   cases hx;cases hy
   simp only [Sem.run_bind,ZgX,Result.andThen_ok]
   split at h
   · next hk=>
     obtain ⟨d,g,h1,h2,hf⟩:=Qc ht hk
     cases hf
     cases h
     exact ⟨_,rfl,run_eql_bool w t a b h2⟩
   · next hk=>
     obtain ⟨d,g,h1,h2,hf⟩:=Qc ht hk
     cases hf
     cases h
     exact ⟨_,rfl,run_neq_bool w t a b h2⟩
   · cases h
 · cases h
theorem Zlo {op : UnOp} {x v : V} {A : Nat → Prop} {ids : Nat → Nat × Nat} {w : World} {vx : Value} (hx : RepV A ids w x vx) (h : unV op x = some v) : ∃ u,v = .c u ∧ (Op.unary op vx).run P w = .ok u w:=by
 unfold unV at h
 split at h
 · cases hx;cases h;exact ⟨_,rfl,by simp [Op.unary,Op.intArith,wr]⟩
 · cases hx;cases h;exact ⟨_,rfl,by simp [Op.unary]⟩
 · cases h
theorem Zh9 (ht : Zk P tab) {src dst : TypeId} {x v : V} {A : Nat → Prop} {ids : Nat → Nat × Nat} {w : World} {vx : Value} (hx : RepV A ids w x vx) (hsrc : (tab src).isSome = true) (h : ZhY tab dst x = some v) :
 ∃ u,v = .c u ∧ (convert src dst vx).run P w = .ok u w:=by
 unfold ZhY at h
 split at h
 · next k k' n hk=>
   cases hx
   cases h
   obtain ⟨d,g,h1,h2,hf⟩:=Qc ht hk
   cases hf
   obtain ⟨τ,hτ⟩:=Option.isSome_iff_exists.1 hsrc
   obtain ⟨d',h3,_,_⟩:=(ht src τ hτ).desc
   exact ⟨_,rfl,by simp [convert,h1,h3,Conv.intToInt,wr]⟩
 · cases h
end
section
variable {P : Program} {tab : Tab}
theorem ZdZ (ht : Zk P tab) {t : TypeId} {x : V} {c : Value} {b : Bool} {A : Nat → Prop} {ids : Nat → Nat × Nat} {w : World} {vx : Value} (hx : RepV A ids w x vx)
 (hc : ZeE ((tab t).map Ty.kind) (.const c) = true) (h : Zim ((tab t).map Ty.kind) x = some b) (ox : Operand) :
 (do eqGuard .eql t ox (.const c) vx c;binOp .eql t vx c).run P w = .ok (.bool b) w ∧ (do eqGuard .neq t ox (.const c) vx c;binOp .neq t vx c).run P w = .ok (.bool (!b)) w:=by
 cases hk : (tab t).map Ty.kind with
 | none=>rw [hk] at h;simp [Zim] at h
 | some k=>
  rw [hk] at h hc
  obtain ⟨d,g,h1,h2,hf⟩:=Qc ht hk
  have e9 : ∀ x y,Op.equal t x y = Op.equalIn (9999 + 1) t x y:=fun _ _=>rfl
  have key : (Op.equal t vx c).run P w = .ok b w ∧ (∀ op,(eqGuard op t ox (.const c) vx c).run P w = .ok () w) ∧ binOp .eql t vx c = (do pure (.bool (← Op.equal t vx c))) ∧ binOp .neq t vx c = (do pure (.bool (!(← Op.equal t vx c)))):=by
   simp only [ZeE,Option.any_some] at hc
   simp only [Zim,Option.bind_some] at h
   cases hf <;> simp only [ZtJ,Bool.false_eq_true] at hc
   case iface ms=>
    split at hc
    case h_2=>cases hc
    simp only [Zfn] at h
    split at h
    · cases h;cases hx;exact ⟨by rw [e9,Op.equalIn];simp [h1],fun op=>by cases op <;> simp [eqGuard],rfl,rfl⟩
    · cases h;cases hx;exact ⟨by rw [e9,Op.equalIn];simp [h1],fun op=>by cases op <;> rfl,rfl,rfl⟩
    · cases h
   case func a b v=>
    split at hc
    case h_2=>cases hc
    simp only [Zfn] at h
    split at h
    · cases h;cases hx;exact ⟨by rw [e9,Op.equalIn];simp [h1],fun op=>by cases op <;> rfl,rfl,rfl⟩
    · cases h;cases hx;exact ⟨by rw [e9,Op.equalIn];simp [h1],fun op=>by cases op <;> rfl,rfl,rfl⟩
    · cases h
   case ptr e=>
    split at hc
    case h_2=>cases hc
    simp only [Zfn] at h
    split at h
    · cases h;cases hx;exact ⟨by rw [e9,Op.equalIn];simp [h1],fun op=>by cases op <;> rfl,rfl,rfl⟩
    · cases h;cases hx;exact ⟨by rw [e9,Op.equalIn];simp [h1],fun op=>by cases op <;> rfl,rfl,rfl⟩
    · cases h;cases hx;exact ⟨by rw [e9,Op.equalIn];simp [h1],fun op=>by cases op <;> rfl,rfl,rfl⟩
    · cases h
   case map k e=>
    split at hc
    case h_2=>cases hc
    simp only [Zfn] at h
    split at h
    · cases h;cases hx;exact ⟨by rw [e9,Op.equalIn];simp [h1],fun op=>by cases op <;> rfl,rfl,rfl⟩
    · cases h;cases hx;exact ⟨by rw [e9,Op.equalIn];simp [h1],fun op=>by cases op <;> rfl,rfl,rfl⟩
    · cases h
   case slice e=>
    split at hc
    case h_2=>cases hc
    simp only [Zfn] at h
    split at h
    · cases h;cases hx;exact ⟨by rw [e9,Op.equalIn];simp [h1],fun op=>by cases op <;> rfl,rfl,rfl⟩
    · cases h
    · cases h;cases hx;next hd _=>cases hd;exact ⟨by rw [e9,Op.equalIn];simp [h1],fun op=>by cases op <;> rfl,rfl,rfl⟩
    · cases h
  obtain ⟨k1,k2,k3,k4⟩:=key
  refine ⟨?_,?_⟩
  · rw [Sem.run_bind,k2,Result.andThen_ok,k3,Sem.run_bind,k1];rfl
  · rw [Sem.run_bind,k2,Result.andThen_ok,k4,Sem.run_bind,k1];rfl
def ZrG : V → Option Prop
 | .lst _ rows _=>some (rows = [])
 | .ac _ _ len=>some (len = 0)
 | _=>none
def Zs7 (k : Option TK) (bo : BinOp) (y : Operand) (x : V) : Option (Bool × Prop):=
 match ZeE k y with
 | false=>none
 | true=>match k with
  | some (.slice _)=>match bo with
   | .eql=>(ZrG x).map fun p=>(false,p)
   | .neq=>(ZrG x).map fun p=>(true,p)
   | _=>none
  | _=>none
theorem Zah {x : V} {p : Prop} {A : Nat → Prop} {ids : Nat → Nat × Nat} {w : World} {v : Value} (hx : RepV A ids w x v) (h : ZrG x = some p) : ∃ a len cap,v = .slice a len cap ∧ (a = none → p):=by
 cases x with
 | lst sz rows cl=>
  simp only [ZrG,Option.some.injEq] at h
  subst h
  cases hx with
  | lst _ _ _ _ hd _=>
   cases hd with
   | emp _ a cap=>exact ⟨a,0,cap,rfl,fun _=>rfl⟩
   | lst=>exact ⟨_,_,_,rfl,fun h=>by cases h⟩
 | ac n sz len=>
  simp only [ZrG,Option.some.injEq] at h
  subst h
  cases hx with
  | ac0=>exact ⟨_,_,_,rfl,fun _=>rfl⟩
  | ac1 _ _ _ _ h0 h=>
   cases h with
   | sl _ _ _ _ cap ad hl hc=>
    obtain ⟨arr,T,_,e,_⟩:=hc (by omega)
    exact ⟨_,_,_,rfl,fun h=>by rw [e] at h;cases h⟩
 | _=>cases h
theorem ZkX (ht : Zk P tab) {t : TypeId} {x : V} {c : Value} {bo : BinOp} {neg : Bool} {p : Prop} {A : Nat → Prop} {ids : Nat → Nat × Nat} {w : World} {vx : Value} (hx : RepV A ids w x vx)
 (h : Zs7 ((tab t).map Ty.kind) bo (.const c) x = some (neg,p)) (ox : Operand) :
 ∃ z : Bool,(z = true → p) ∧ (do eqGuard bo t ox (.const c) vx c;binOp bo t vx c).run P w = .ok (.bool (z != neg)) w:=by
 unfold Zs7 at h
 cases hc : ZeE ((tab t).map Ty.kind) (.const c) with
 | false=>rw [hc] at h;cases h
 | true=>
  rw [hc] at h
  dsimp only at h
  cases hk : (tab t).map Ty.kind with
  | none=>rw [hk] at h;cases h
  | some k=>
   rw [hk] at h hc
   obtain ⟨d,g,h1,h2,hf⟩:=Qc ht hk
   have e9 : ∀ x y,Op.equal t x y = Op.equalIn (9999 + 1) t x y:=fun _ _=>rfl
   cases k with
   | slice e=>
    simp only [ZeE,Option.any_some,ZtJ] at hc
    split at hc
    case h_2=>cases hc
    dsimp only at h
    have main : ∀ q,ZrG x = some q → ∃ z : Bool,(z = true → q) ∧ (Op.equal t vx (.slice none 0 0)).run P w = .ok z w:=by
     intro q hq
     obtain ⟨a,len,cap,rfl,ha⟩:=Zah hx hq
     cases hf
     refine ⟨a.isNone,fun h=>ha (by simpa using h),?_⟩
     rw [e9,Op.equalIn]
     cases a <;> simp [h1]
    cases bo <;> try cases h
    · rw [Option.map_eq_some_iff] at h
      obtain ⟨q,hq,h⟩:=h
      cases h
      obtain ⟨z,hz,k1⟩:=main _ hq
      refine ⟨z,hz,?_⟩
      have k2 : (eqGuard .eql t ox (.const (.slice none 0 0)) vx (.slice none 0 0)).run P w = .ok () w:=by obtain ⟨a,len,cap,rfl,_⟩:=Zah hx hq;rfl
      have k3 : binOp .eql t vx (.slice none 0 0) = (do pure (.bool (← Op.equal t vx (.slice none 0 0)))):=by obtain ⟨a,len,cap,rfl,_⟩:=Zah hx hq;rfl
      rw [Sem.run_bind,k2,Result.andThen_ok,k3,Sem.run_bind,k1]
      cases z <;> rfl
    · rw [Option.map_eq_some_iff] at h
      obtain ⟨q,hq,h⟩:=h
      cases h
      obtain ⟨z,hz,k1⟩:=main _ hq
      refine ⟨z,hz,?_⟩
      have k2 : (eqGuard .neq t ox (.const (.slice none 0 0)) vx (.slice none 0 0)).run P w = .ok () w:=by obtain ⟨a,len,cap,rfl,_⟩:=Zah hx hq;rfl
      have k3 : binOp .neq t vx (.slice none 0 0) = (do pure (.bool (!(← Op.equal t vx (.slice none 0 0))))):=by obtain ⟨a,len,cap,rfl,_⟩:=Zah hx hq;rfl
      rw [Sem.run_bind,k2,Result.andThen_ok,k3,Sem.run_bind,k1]
      cases z <;> rfl
   | _=>cases h
theorem Zc6 (ht : Zk P tab) {s : TypeId} {f off : Nat} {τ' : Ty} (h : ZeU tab s f = some (off,τ')) :
 ∃ (fields : Array Field) (fd : Field),(∀ w,(underlying s).run P w = .ok (.struct fields) w) ∧ fields[f]? = some fd ∧ fd.offset = off ∧ TyOk P fd.type τ':=by
 unfold ZeU at h
 rw [Option.bind_eq_some_iff] at h
 obtain ⟨τ,hτ,h⟩:=h
 split at h
 · next fs hk=>
   rw [Option.bind_eq_some_iff] at h
   obtain ⟨p,hp,h⟩:=h
   rw [Option.map_eq_some_iff] at h
   obtain ⟨τ2,h2,he⟩:=h
   simp only [Prod.mk.injEq] at he
   obtain ⟨rfl,rfl⟩:=he
   obtain ⟨d,h1,_,hf⟩:=(ht s τ hτ).desc
   rw [hk] at hf
   generalize τ.agg = g at hf
   cases hf with
   | struct fields l hl=>
    rw [← hl,List.getElem?_map,Option.map_eq_some_iff] at hp
    obtain ⟨fd,hfd,rfl⟩:=hp
    exact ⟨fields,fd,h1,by simpa using hfd,rfl,ht _ _ h2⟩
 · cases h
theorem ZdH (ht : Zk P tab) {s : TypeId} {f : Nat} {x v : V} {A : Nat → Prop} {ids : Nat → Nat × Nat} {w : World} {vx : Value} (hx : RepV A ids w x vx) (h : Qx tab s x f = some v) {nx : Nm} (hb : x.Below nx) :
 ∃ val,(Instr.fieldAt s vx f).run P w = .ok val w ∧ RepV A ids w v val ∧ v.Below nx:=by
 unfold Qx at h
 rw [Option.bind_eq_some_iff] at h
 obtain ⟨⟨off,τ'⟩,hf,h⟩:=h
 obtain ⟨fields,fd,h1,h2,h3,h4⟩:=Zc6 ht hf
 dsimp only at h
 split at h
 · cases h
 · next hz=>
   split at h
   · next n sz i j=>
     cases h
     cases hx
     cases hb
     next hn=>
     refine ⟨_,?_,.p n sz i (j + off),.p _ _ _ _ hn⟩
     simp only [Instr.fieldAt,Sem.run_bind,h1,Result.andThen_ok,h2,Instr.sureAddr,Sem.run_pure,fieldPlace,h4.sizeOf,hz,if_false,Z8,h3,Nat.add_assoc]
   · next row j=>
     cases h
     cases hx with
     | q _ _ b o cell hb' hA hc hd=>
      refine ⟨_,?_,.q row (j + off) b o cell hb' hA hc hd,.q _ _⟩
      simp only [Instr.fieldAt,Sem.run_bind,h1,Result.andThen_ok,h2,Instr.sureAddr,Sem.run_pure,fieldPlace,h4.sizeOf,hz,if_false,Z8,h3,Nat.add_assoc]
   · cases h
theorem ZeS {t : TypeId} {τ : Ty} (h : TyOk P t τ) {xs : List V} {arr : Array Value} {off : Nat} {v : V} {A : Nat → Prop} {ids : Nat → Nat × Nat} {w : World} (hs : arr.size = xs.length)
 (hr : ∀ (i : Nat) (x : V) (v : Value),xs[i]? = some x → arr[i]? = some v → RepV A ids w x v) (hl : YM τ xs off = some v) {nx : Nm} (hb : ∀ x ∈ xs,x.Below nx) :
 ∃ val,(part t arr off).run P w = .ok val w ∧ RepV A ids w v val ∧ v.Below nx:=by
 unfold YM at hl
 simp only [part,Sem.run_bind,h.isAgg,Result.andThen_ok]
 split at hl
 · next ha=>
   split at hl
   · next hsz=>
     cases hl
     rw [ha]
     refine ⟨.agg (arr.extract off (off + τ.size)),by simp only [if_true,Sem.run_bind,h.sizeOf,Result.andThen_ok,Sem.run_pure],?_,.agg _ fun x hx=>hb x (List.mem_of_mem_drop (List.mem_of_mem_take hx))⟩
     refine .agg _ _ (by simp;omega) fun i x u hx hu=>?_
     have hi : i < τ.size:=by
      have:=(List.getElem?_eq_some_iff.1 hx).1;simp at this;omega
     rw [List.getElem?_take_of_lt hi,List.getElem?_drop] at hx
     rw [Array.getElem?_extract,if_pos (by omega)] at hu
     exact hr _ x u hx hu
   · cases hl
 · next ha=>
   have hlt:=(List.getElem?_eq_some_iff.1 hl).1
   have hv : arr[off]? = some arr[off]:=by simp [hs,hlt]
   simp only [Bool.not_eq_true] at ha
   refine ⟨arr[off],by rw [ha];simp only [Bool.false_eq_true,if_false,hv,Sem.run_pure],hr off v _ hl hv,hb v (List.mem_of_getElem? hl)⟩
theorem ZeJ (ht : Zk P tab) {s : TypeId} {f : Nat} {x v : V} {A : Nat → Prop} {ids : Nat → Nat × Nat} {w : World} {vx : Value} (hx : RepV A ids w x vx) (h : Zal tab s x f = some v) {nx : Nm} (hb : x.Below nx) :
 ∃ val,(Instr.field s vx f).run P w = .ok val w ∧ RepV A ids w v val ∧ v.Below nx:=by
 unfold Zal at h
 rw [Option.bind_eq_some_iff] at h
 obtain ⟨⟨off,τ'⟩,hf,h⟩:=h
 obtain ⟨fields,fd,h1,h2,h3,h4⟩:=Zc6 ht hf
 dsimp only at h
 split at h
 · next xs=>
   cases hx with
   | agg _ arr hs hr=>
    cases hb with
    | agg _ hb=>
     obtain ⟨val,p1,p2⟩:=ZeS h4 hs hr h hb
     refine ⟨val,?_,p2⟩
     simp only [Instr.field,Sem.run_bind,h1,Result.andThen_ok,h2,h3]
     simpa [asAgg] using p1
 · cases h
theorem YD {t e : TypeId} {τ ε : Ty} (hτ : tab t = some τ) (hk : τ.kind = .slice e) (h : ZeF tab t = some ε) : tab e = some ε:=by
 simpa [ZeF,hτ,hk] using h
theorem ZdJ {t e : TypeId} {m : Nat} {τ ε : Ty} (hτ : tab t = some τ) (hk : τ.kind = .array m e) (h : ZeF tab t = some ε) : tab e = some ε:=by
 simpa [ZeF,hτ,hk] using h
theorem ZK (ht : Zk P tab) {t e : TypeId} {τ : Ty} (hτ : tab t = some τ) (hk : τ.kind = .slice e) (w : World) : (underlying t).run P w = .ok (.slice e) w:=by
 obtain ⟨d,h1,_,hf⟩:=(ht t τ hτ).desc
 rw [hk] at hf
 generalize τ.agg = g at hf
 cases hf;exact h1 w
theorem Zfg (ht : Zk P tab) {t e : TypeId} {m : Nat} {τ : Ty} (hτ : tab t = some τ) (hk : τ.kind = .array m e) (w : World) : (underlying t).run P w = .ok (.array m e) w:=by
 obtain ⟨d,h1,_,hf⟩:=(ht t τ hτ).desc
 rw [hk] at hf
 generalize τ.agg = g at hf
 cases hf;exact h1 w
theorem ZdW (ht : Zk P tab) {t : TypeId} {x ix v : V} {A : Nat → Prop} {ids : Nat → Nat × Nat} {w : World} {vx vi : Value} (hx : RepV A ids w x vx) (hi : RepV A ids w ix vi) (h : Qw tab t x ix = some v)
 {nx : Nm} (hb : x.Below nx) : ∃ val,(Instr.indexAt t vx vi).run P w = .ok val w ∧ RepV A ids w v val ∧ v.Below nx:=by
 unfold Qw at h
 rw [Option.bind_eq_some_iff] at h
 obtain ⟨τ,hτ,h⟩:=h
 rw [Option.bind_eq_some_iff] at h
 obtain ⟨ε,hε,h⟩:=h
 split at h
 · next e n sz off len k i hk=>
   split at h
   · next hc=>
     cases h
     cases hi
     cases hb
     next hn=>
     have he:=ht _ _ (YD hτ hk hε)
     cases hx with
     | sl _ _ _ _ cap ad hl hc'=>
      obtain ⟨c1,c2,c3⟩:=hc
      have hcap : cap ≠ 0:=by omega
      obtain ⟨arr,T,hs,rfl,ha⟩:=hc' hcap
      refine ⟨.pointer (some ⟨(ids n).1,(ids n).2 + ((off + i.toNat) * sz + 0),none⟩),?_,.p _ _ _ _,.p _ _ _ _ hn⟩
      have hd:=ZK ht hτ hk
      simp only [Instr.indexAt,asIntOf,Sem.run_bind,Sem.run_pure,Result.andThen_ok,hd,c2,c3,and_self,if_true,he.sizeOf,c1,Z8,Nat.add_mul,Nat.add_assoc,Nat.add_zero]
   · cases h
 · next e n sz len k i hk=>
   split at h
   · next hc=>
     cases h
     cases hi
     cases hb
     next hn=>
     have he:=ht _ _ (YD hτ hk hε)
     obtain ⟨c1,c2,c3⟩:=hc
     cases hx with
     | ac0=>omega
     | ac1 _ _ _ _ h0 hx=>
     cases hx with
     | sl _ _ _ _ cap ad hl hc'=>
      have hcap : cap ≠ 0:=by omega
      obtain ⟨arr,T,hs,rfl,ha⟩:=hc' hcap
      refine ⟨.pointer (some ⟨(ids n).1,(ids n).2 + (i.toNat * sz + 0),none⟩),?_,.p _ _ _ _,.p _ _ _ _ hn⟩
      have hd:=ZK ht hτ hk
      simp only [Instr.indexAt,asIntOf,Sem.run_bind,Sem.run_pure,Result.andThen_ok,hd,c2,c3,and_self,if_true,he.sizeOf,c1,Z8,Nat.zero_mul,Nat.add_zero]
   · cases h
 · next e sz rows clip k i hk=>
   split at h
   · next hc=>
     rw [Option.map_eq_some_iff] at h
     obtain ⟨row,hrow,rfl⟩:=h
     cases hi
     have he:=ht _ _ (YD hτ hk hε)
     obtain ⟨c1,c2,c3⟩:=hc
     cases hx with
     | lst _ _ _ _ hd _=>
      cases hd with
      | emp=>simp at c3;omega
      | lst _ _ b o cap cell hcap hb' hA hw hcell hd=>
       have hlen:=hw row (List.mem_of_getElem? hrow)
       refine ⟨.pointer (some ⟨b,(o + i.toNat * sz) + 0,none⟩),?_,.q row 0 b (o + i.toNat * sz) (fun k=>cell i.toNat k) hb' hA (fun k d hk=>?_) (fun k d hk=>hd i.toNat row k d hrow hk),.q _ _⟩
       · have hd':=ZK ht hτ hk
         simp only [Instr.indexAt,asIntOf,Sem.run_bind,Sem.run_pure,Result.andThen_ok,hd',c2,c3,and_self,if_true,he.sizeOf,c1,Z8,Nat.add_zero]
       · rw [Nat.add_assoc];exact hcell i.toNat row k d hrow hk
   · cases h
 · next m e n sz a j k i hk=>
   split at h
   · next hc=>
     cases h
     cases hi
     cases hb
     next hn=>
     have he:=ht _ _ (ZdJ hτ hk hε)
     cases hx
     refine ⟨_,?_,.p n sz a (j + i.toNat * ε.size),.p _ _ _ _ hn⟩
     have hd:=Zfg ht hτ hk
     simp only [Instr.indexAt,asIntOf,Instr.sureAddr,Sem.run_bind,Sem.run_pure,Result.andThen_ok,hd,hc,and_self,if_true,he.sizeOf,Z8,Nat.add_assoc]
   · cases h
 · cases h
theorem Ziu (ht : Zk P tab) {t : TypeId} {x ix v : V} {A : Nat → Prop} {ids : Nat → Nat × Nat} {w : World} {vx vi : Value} (hx : RepV A ids w x vx) (hi : RepV A ids w ix vi) (h : Ze7 tab t x ix = some v)
 {nx : Nm} (hb : x.Below nx) : ∃ val,(Instr.index t vx vi).run P w = .ok val w ∧ RepV A ids w v val ∧ v.Below nx:=by
 unfold Ze7 at h
 rw [Option.bind_eq_some_iff] at h
 obtain ⟨τ,hτ,h⟩:=h
 rw [Option.bind_eq_some_iff] at h
 obtain ⟨ε,hε,h⟩:=h
 split at h
 · next m e xs k i hk=>
   split at h
   · next hc=>
     cases hi
     have he:=ht _ _ (ZdJ hτ hk hε)
     cases hx with
     | agg _ arr hs hr=>
      cases hb with
      | agg _ hb=>
       obtain ⟨val,p1,p2⟩:=ZeS he hs hr h hb
       refine ⟨val,?_,p2⟩
       have hd:=Zfg ht hτ hk
       simp only [Instr.index,asIntOf,Sem.run_bind,Sem.run_pure,Result.andThen_ok,hd,hc,and_self,if_true,he.sizeOf]
       exact p1
   · cases h
 · cases h
theorem Zk8 (ht : Zk P tab) {F : Nat → Prop} {ids : Nat → Nat × Nat} {w : World} {h : Hp} {nx : Nm} (hh : RepH F ids w h nx) {t : TypeId} {τ : Ty} (hτ : tab t = some τ) {x : V} {vx : Value} {n : Nat}
 (hx : RepV (Ze F h ids) ids w x vx) (hl : Znz h τ.kind x = some n) (T : TypeId) : (Builtin.len_ #[t] T #[vx]).run P w = .ok (.int .i64 n) w:=by
 obtain ⟨d,h1,_,hf⟩:=(ht t τ hτ).desc
 generalize τ.agg = g at hf
 generalize τ.kind = k at hf hl
 cases hf <;> simp only [Znz,reduceCtorEq] at hl
 case slice e=>
  split at hl
  · cases hl;cases hx;simp [Builtin.len_,h1,goInt]
  · cases hl;cases hx with
    | ac0=>simp [Builtin.len_,h1,goInt]
    | ac1 _ _ _ _ h0 hx=>cases hx;simp [Builtin.len_,h1,goInt]
  · cases hl;cases hx with
    | lst _ _ _ _ hd _=>cases hd <;> simp [Builtin.len_,h1,goInt]
  · cases hl;cases hx;simp [Builtin.len_,h1,goInt]
  · cases hl
 case map k e=>
  split at hl
  · next m=>
    split at hl
    · next es hm=>
      cases hl;cases hx
      obtain ⟨ar,c,b1,b2,_⟩:=hh.blk m _ hm
      have hg : (getObj (ids m).1).run P w = .ok (.map ar c) w:=by simp [getObj,Sem.run,b1]
      simp [Builtin.len_,h1,goInt,hg,b2]
    · cases hl
  · cases hl
end
section
variable {P : Program} {tab : Tab}
theorem Zc5 {A : Nat → Prop} {ids : Nat → Nat × Nat} {w : World} {y y' dflt a : Nat} {o : Option V} {vo : Option Value} (ho : ∀ x v,o = some x → vo = some v → RepV A ids w x v) (e : o.isSome = vo.isSome) (hy : y ≤ y')
 (h : ZaJ y dflt o = some a) (code : BoundsCode) : (match vo with | some v=>Instr.sliceBound v y' code | none=>pure dflt).run P w = .ok a w ∧ (o.isSome = true → a ≤ y) ∧ (o = none → a = dflt):=by
 cases o with
 | none=>cases vo with
  | none=>cases h;exact ⟨rfl,by simp,fun _=>rfl⟩
  | some v=>simp at e
 | some x=>cases vo with
  | none=>simp at e
  | some v=>
   have hr:=ho x v rfl rfl
   unfold ZaJ at h
   split at h
   · next heq=>cases heq
   · next k i heq=>
     cases heq
     split at h
     · next hi=>cases h;cases hr;refine ⟨?_,fun _=>by omega,by simp⟩;simp only [Instr.sliceBound,asIntOf,Sem.run_bind,Sem.run_pure,Result.andThen_ok];rw [if_pos (by omega)];rfl
     · cases h
   · cases h
theorem QN {A : Nat → Prop} {ids : Nat → Nat × Nat} {w : World} {len cap a b : Nat} {lo hi : Option V} {vlo vhi : Option Value} (hlo : ∀ x v,lo = some x → vlo = some v → RepV A ids w x v) (hhi : ∀ x v,hi = some x → vhi = some v → RepV A ids w x v)
 (e1 : lo.isSome = vlo.isSome) (e2 : hi.isSome = vhi.isSome) (hc : len ≤ cap) (h : bound len lo hi = some (a,b)) :
 (Instr.sliceBounds true len cap vlo vhi none).run P w = .ok (a,b,cap) w ∧ a ≤ b ∧ b ≤ len:=by
 unfold bound at h
 rw [Option.bind_eq_some_iff] at h
 obtain ⟨b',hb,h⟩:=h
 rw [Option.map_eq_some_iff] at h
 obtain ⟨a',ha,h⟩:=h
 simp only [Prod.mk.injEq] at h
 obtain ⟨rfl,rfl⟩:=h
 obtain ⟨h1,h2,h3⟩:=Zc5 (P:=P) hhi e2 hc hb .sliceAcap
 obtain ⟨h4,h5,h6⟩:=Zc5 (P:=P) hlo e1 (Nat.le_refl b') ha .sliceB
 have hb' : b' ≤ len:=by
  cases hi with
  | none=>rw [h3 rfl];exact Nat.le_refl _
  | some x=>exact h2 rfl
 have ha' : a' ≤ b':=by
  cases lo with
  | none=>rw [h6 rfl];exact Nat.zero_le _
  | some x=>exact h5 rfl
 refine ⟨?_,ha',hb'⟩
 unfold Instr.sliceBounds
 cases vhi <;> cases vlo <;> simp_all
theorem Zhw {hi mx : Option V} (h : ZbQ hi mx = true) : ∃ k k' n,hi = some (.c (.int k n)) ∧ mx = some (.c (.int k' n)):=by
 unfold ZbQ at h
 split at h
 · simp only [decide_eq_true_eq] at h;subst h;exact ⟨_,_,_,rfl,rfl⟩
 · cases h
theorem ZaY {A : Nat → Prop} {ids : Nat → Nat × Nat} {w : World} {len cap a b : Nat} {lo hi mx : Option V} {vlo vhi vmx : Option Value} (hlo : ∀ x v,lo = some x → vlo = some v → RepV A ids w x v) (hhi : ∀ x v,hi = some x → vhi = some v → RepV A ids w x v) (hmx : ∀ x v,mx = some x → vmx = some v → RepV A ids w x v)
 (e1 : lo.isSome = vlo.isSome) (e2 : hi.isSome = vhi.isSome) (e3 : mx.isSome = vmx.isSome) (hc : len ≤ cap) (hs : ZbQ hi mx = true) (h : bound len lo hi = some (a,b)) :
 (Instr.sliceBounds true len cap vlo vhi vmx).run P w = .ok (a,b,b) w ∧ a ≤ b ∧ b ≤ len:=by
 obtain ⟨k,k',n,rfl,rfl⟩:=Zhw hs
 cases vhi with
 | none=>cases e2
 | some u=>
 cases vmx with
 | none=>cases e3
 | some u'=>
 have h1:=hhi _ _ rfl rfl
 have h2:=hmx _ _ rfl rfl
 cases h1;cases h2
 unfold bound at h
 rw [Option.bind_eq_some_iff] at h
 obtain ⟨b',hb',h⟩:=h
 rw [Option.map_eq_some_iff] at h
 obtain ⟨a',ha',he⟩:=h
 simp only [Prod.mk.injEq] at he
 obtain ⟨rfl,rfl⟩:=he
 simp only [ZaJ] at hb'
 split at hb'
 case isFalse=>cases hb'
 next hb=>
 cases hb'
 obtain ⟨b0,b1⟩:=hb
 cases lo with
 | none=>
  cases vlo with
  | some _=>cases e1
  | none=>
  cases ha'
  refine ⟨?_,Nat.zero_le _,by omega⟩
  have k1 : 0 ≤ n ∧ n ≤ (cap : Int):=by omega
  have k2 : 0 ≤ n ∧ n ≤ (n.toNat : Int):=by omega
  simp only [Instr.sliceBounds,Instr.sliceBound,asIntOf,Sem.run_bind,Sem.run_pure,Result.andThen_ok,if_pos k1,if_pos k2]
 | some x=>
  cases vlo with
  | none=>cases e1
  | some ux=>
  have h3:=hlo _ _ rfl rfl
  unfold ZaJ at ha'
  split at ha'
  · cases ‹some x = none›
  · next kx ix hx=>
    cases hx
    cases h3
    split at ha'
    case isFalse=>cases ha'
    next hq=>
    cases ha'
    refine ⟨?_,by omega,by omega⟩
    have k1 : 0 ≤ n ∧ n ≤ (cap : Int):=by omega
    have k2 : 0 ≤ n ∧ n ≤ (n.toNat : Int):=by omega
    simp only [Instr.sliceBounds,Instr.sliceBound,asIntOf,Sem.run_bind,Sem.run_pure,Result.andThen_ok,if_pos k1,if_pos k2,if_pos hq,Option.isSome_some,if_true]
  · cases ha'
theorem Zia (ht : Zk P tab) {A : Nat → Prop} {ids : Nat → Nat × Nat} {w : World} {t : TypeId} {x v : V} {vx : Value} {lo hi mx : Option V} {vlo vhi vmx : Option Value} (hx : RepV A ids w x vx)
 (hlo : ∀ x v,lo = some x → vlo = some v → RepV A ids w x v) (hhi : ∀ x v,hi = some x → vhi = some v → RepV A ids w x v) (hmx : ∀ x v,mx = some x → vmx = some v → RepV A ids w x v)
 (e1 : lo.isSome = vlo.isSome) (e2 : hi.isSome = vhi.isSome) (e3 : mx.isSome = vmx.isSome) {nx : Nm} (hb : x.Below nx) (h : Zfr tab t x lo hi mx = some v) :
 ∃ val,(Instr.sliceAt t vx vlo vhi vmx).run P w = .ok val w ∧ RepV A ids w v val ∧ v.Below nx:=by
 unfold Zfr at h
 rw [Option.bind_eq_some_iff] at h
 obtain ⟨τ,hτ,h⟩:=h
 rw [Option.bind_eq_some_iff] at h
 obtain ⟨ε,hε,h⟩:=h
 have hnone : mx.isNone = true → vmx = none:=fun hm=>by cases vmx <;> cases mx <;> simp_all
 split at h
 · next e n sz off len hk=>
   have hd:=ZK ht hτ hk
   have he:=ht _ _ (YD hτ hk hε)
   split at h
   · next hc=>
     obtain ⟨c1,c2⟩:=hc
     rw [Option.map_eq_some_iff] at h
     obtain ⟨⟨a,b⟩,hbd,rfl⟩:=h
     have hm:=hnone c2
     subst hm
     cases hb
     next hn=>
     cases hx with
     | sl _ _ _ _ cap ad hl hcc=>
      obtain ⟨p1,p2,p3⟩:=QN (P:=P) hlo hhi e1 e2 hl hbd
      refine ⟨.slice (if cap = a then ad else ad.map (·.add (a * ε.size))) (b - a) (cap - a),?_,?_,.sl _ _ _ _ hn⟩
      · simp only [Instr.sliceAt,Sem.run_bind,hd,Result.andThen_ok,Instr.slice,p1,he.sizeOf,Sem.run_pure]
      · refine .sl _ _ _ _ _ _ (by omega) fun h0=>?_
        have hca : cap ≠ a:=by omega
        obtain ⟨arr,T,hs,rfl,ha⟩:=hcc (by omega)
        refine ⟨arr,T,hs,?_,by rw [show off + a + (cap - a) = off + cap by omega];exact ha⟩
        rw [if_neg hca,Option.map_some,Z8,c1,Nat.add_mul,Nat.add_assoc]
   · cases h
 · next e n sz len hk=>
   have hd:=ZK ht hτ hk
   have he:=ht _ _ (YD hτ hk hε)
   split at h
   case isFalse=>cases h
   next hc=>
   obtain ⟨c1,c2⟩:=hc
   rw [Option.map_eq_some_iff] at h
   obtain ⟨⟨a,b⟩,hbd,rfl⟩:=h
   have hm:=hnone c2
   subst hm
   cases hb
   next hn=>
   have hx' : ∃ cap ad,vx = .slice ad len cap ∧ len ≤ cap ∧ (cap ≠ 0 → ∃ (arr : Array Value) (T : TypeId),w.heap[(ids n).1]? = some (.cells arr T (0,0)) ∧ ad = some ⟨(ids n).1,(ids n).2,none⟩ ∧ (ids n).2 + cap * sz ≤ arr.size):=by
    cases hx with
    | ac0=>exact ⟨0,_,rfl,Nat.le_refl _,fun h=>absurd rfl h⟩
    | ac1 _ _ _ _ h0 hx=>cases hx with | sl _ _ _ _ cap ad hl hcc=>exact ⟨cap,ad,rfl,hl,fun h=>by obtain ⟨arr,T,h1,h2,h3⟩:=hcc h;exact ⟨arr,T,h1,by simpa using h2,by simpa using h3⟩⟩
   obtain ⟨cap,ad,rfl,hl,hcc⟩:=hx'
   obtain ⟨p1,p2,p3⟩:=QN (P:=P) hlo hhi e1 e2 hl hbd
   refine ⟨.slice (if cap = a then ad else ad.map (·.add (a * ε.size))) (b - a) (cap - a),?_,?_,.sl _ _ _ _ hn⟩
   · simp only [Instr.sliceAt,Sem.run_bind,hd,Result.andThen_ok,Instr.slice,p1,he.sizeOf,Sem.run_pure]
   · refine .sl _ _ _ _ _ _ (by omega) fun h0=>?_
     have hca : cap ≠ a:=by omega
     obtain ⟨arr,T,hs,rfl,ha⟩:=hcc (by omega)
     refine ⟨arr,T,hs,?_,by rw [show a + (cap - a) = cap by omega];exact ha⟩
     rw [if_neg hca,Option.map_some,Z8,c1]
 · next e sz rows clip hk=>
   have hd:=ZK ht hτ hk
   have he:=ht _ _ (YD hτ hk hε)
   split at h
   case isFalse=>cases h
   next c1=>
   have main : ∀ (a b : Nat) (cl : Bool),a ≤ b → b ≤ rows.length → (∀ ad cap,vx = .slice ad rows.length cap → rows.length ≤ cap → ∃ m,(Instr.sliceBounds true rows.length cap vlo vhi vmx).run P w = .ok (a,b,m) w ∧ b ≤ m ∧ m ≤ cap ∧ (cl = true → m = b)) →
    ∃ val,(Instr.sliceAt t vx vlo vhi vmx).run P w = .ok val w ∧ RepV A ids w (.lst sz ((rows.drop a).take (b - a)) cl) val ∧ (V.lst sz ((rows.drop a).take (b - a)) cl).Below nx:=by
    intro a b cl p2 p3 hrun
    cases hx with
    | lst _ _ _ _ hrd hcl=>
     have hlen : ∃ ad cap,vx = .slice ad rows.length cap ∧ rows.length ≤ cap:=by
      cases hrd with
      | emp _ a cap=>exact ⟨a,cap,rfl,by simp⟩
      | lst _ _ b o cap cell hcap=>exact ⟨_,cap,rfl,hcap⟩
     obtain ⟨ad,cap,rfl,hcap⟩:=hlen
     obtain ⟨m,p1,q1,q2,q3⟩:=hrun ad cap rfl hcap
     refine ⟨.slice (if m = a then ad else ad.map (·.add (a * ε.size))) (b - a) (m - a),?_,?_,.lst _ _ _⟩
     · simp only [Instr.sliceAt,Sem.run_bind,hd,Result.andThen_ok,Instr.slice,p1,he.sizeOf,Sem.run_pure]
     · have hl' : ((rows.drop a).take (b - a)).length = b - a:=by simp;omega
       refine .lst _ _ _ _ ?_ ?_
       · generalize hR : (rows.drop a).take (b - a) = R at hl' ⊢
         cases R with
         | nil=>simp at hl';rw [← hl'];exact .emp _ _ _
         | cons r0 R0=>
          cases hrd with
          | emp=>simp at hR
          | lst _ _ bb o _ cell hcap hbb hA hw hcell hdd=>
           have hne : m ≠ a:=by simp at hl';omega
           rw [if_neg hne]
           simp only [Option.map_some,Z8]
           rw [← hl']
           have hget : ∀ (i : Nat) (row : List D),(r0 :: R0)[i]? = some row → rows[a + i]? = some row:=by
            intro i row hi
            rw [← hR] at hi
            have hlt : i < b - a:=by have:=(List.getElem?_eq_some_iff.1 hi).1;simp at this;omega
            rwa [List.getElem?_take_of_lt hlt,List.getElem?_drop] at hi
           refine .lst sz (r0 :: R0) bb (o + a * ε.size) (m - a) (fun i j=>cell (a + i) j) (by omega) hbb hA (fun row hrow=>?_) (fun i row j d hi hj=>?_) (fun i row j d hi hj=>hdd _ row j d (hget i row hi) hj)
           · obtain ⟨i,hi⟩:=List.getElem?_of_mem hrow
             exact hw row (List.mem_of_getElem? (hget i row hi))
           · have:=hcell (a + i) row j d (hget i row hi) hj
             rw [c1,show o + a * sz + (i * sz + j) = o + ((a + i) * sz + j) by rw [Nat.add_mul];omega]
             exact this
       · intro hcl'
         exact ⟨_,by rw [hl',q3 hcl']⟩
   split at h
   · next c2=>
     rw [Option.map_eq_some_iff] at h
     obtain ⟨⟨a,b⟩,hbd,rfl⟩:=h
     have hm:=hnone c2
     subst hm
     have hcl2 : ∀ ad cap,vx = .slice ad rows.length cap → clip = true → cap = rows.length:=by
      intro ad cap e hcl
      cases hx with
      | lst _ _ _ _ hrd hc=>
       obtain ⟨a',ha'⟩:=hc hcl
       rw [ha'] at e
       simp only [Value.slice.injEq] at e
       exact e.2.2.symm
     have hbb : a ≤ b ∧ b ≤ rows.length:=by
      obtain ⟨_,p2,p3⟩:=QN (P:=P) (cap:=rows.length) hlo hhi e1 e2 (Nat.le_refl _) hbd
      exact ⟨p2,p3⟩
     refine main a b _ hbb.1 hbb.2 fun ad cap e hcap=>?_
     obtain ⟨p1,p2,p3⟩:=QN (P:=P) hlo hhi e1 e2 hcap hbd
     refine ⟨cap,p1,by omega,Nat.le_refl _,fun hcl'=>?_⟩
     simp only [Bool.and_eq_true,decide_eq_true_eq] at hcl'
     rw [hcl2 ad cap e hcl'.1,hcl'.2]
   · split at h
     case isFalse=>cases h
     next c2=>
     rw [Option.map_eq_some_iff] at h
     obtain ⟨⟨a,b⟩,hbd,rfl⟩:=h
     have hbb : a ≤ b ∧ b ≤ rows.length:=by
      obtain ⟨_,p2,p3⟩:=ZaY (P:=P) (cap:=rows.length) hlo hhi hmx e1 e2 e3 (Nat.le_refl _) c2 hbd
      exact ⟨p2,p3⟩
     refine main a b _ hbb.1 hbb.2 fun ad cap e hcap=>?_
     obtain ⟨p1,p2,p3⟩:=ZaY (P:=P) hlo hhi hmx e1 e2 e3 hcap c2 hbd
     exact ⟨b,p1,Nat.le_refl _,by omega,fun _=>rfl⟩
 · next e hk=>
   have hd:=ZK ht hτ hk
   have he:=ht _ _ (YD hτ hk hε)
   split at h
   · next c2=>
     rw [Option.map_eq_some_iff] at h
     obtain ⟨⟨a,b⟩,hbd,rfl⟩:=h
     cases hx
     have hrun : (Instr.sliceBounds true 0 0 vlo vhi vmx).run P w = .ok (0,0,0) w:=by
      rcases c2 with c2 | c2
      · have hm:=hnone c2
        subst hm
        obtain ⟨p1,p2,p3⟩:=QN (P:=P) (cap:=0) hlo hhi e1 e2 (Nat.le_refl _) hbd
        obtain rfl : b = 0:=by omega
        obtain rfl : a = 0:=by omega
        exact p1
      · obtain ⟨p1,p2,p3⟩:=ZaY (P:=P) (cap:=0) hlo hhi hmx e1 e2 e3 (Nat.le_refl _) c2 hbd
        obtain rfl : b = 0:=by omega
        obtain rfl : a = 0:=by omega
        exact p1
     refine ⟨.slice none 0 0,?_,.c _,.c _⟩
     simp only [Instr.sliceAt,Sem.run_bind,hd,Result.andThen_ok,Instr.slice,hrun,he.sizeOf,Sem.run_pure]
     rfl
   · cases h
 · cases h
inductive All2 {α β : Type} (R : α → β → Prop) : List α → List β → Prop
 | nil : All2 R [] []
 | cons {a : α} {b : β} {l : List α} {m : List β} : R a b → All2 R l m → All2 R (a :: l) (b :: m)
def Stands (A : Nat → Prop) (ids : Nat → Nat × Nat) (w : World) (xs : List V) (arr : Array Value) : Prop:=
 arr.size = xs.length ∧ ∀ (i : Nat) (x : V) (v : Value),xs[i]? = some x → arr[i]? = some v → RepV A ids w x v
theorem Zhc (vs : List Value) : ∀ (arr : Array Value) (off k : Nat),((vs.zipIdx k).foldl (fun cs (c,j)=>cs.setIfInBounds (off + j) c) arr) = splice arr (off + k) vs:=by
 induction vs with
 | nil=>intro arr off k;rfl
 | cons v vs ih=>intro arr off k;simp only [List.zipIdx_cons,List.foldl_cons,splice];rw [ih];rfl
theorem Stands.splice {A : Nat → Prop} {ids : Nat → Nat × Nat} {w : World} {cells xs : List V} {arr vs : Array Value} {off : Nat} (h : Stands A ids w cells arr) (hv : Stands A ids w xs vs) (ho : off + xs.length ≤ cells.length) :
 Stands A ids w (ZU cells off xs) (Abs.splice arr off vs.toList):=by
 obtain ⟨h1,h2⟩:=h
 obtain ⟨v1,v2⟩:=hv
 refine ⟨by rw [Y5,Q7 _ _ _ ho,h1],fun i x v hx hv=>?_⟩
 rw [ZdF _ _ _ _ ho] at hx
 rw [Zbj _ _ _ _ (by simp [v1,h1];exact ho)] at hv
 simp only [Array.length_toList,v1] at hv
 split at hx
 · next hc=>rw [if_pos hc] at hv;exact v2 _ x v hx (by simpa using hv)
 · next hc=>rw [if_neg hc] at hv;exact h2 _ x v hx hv
theorem ZcF {A : Nat → Prop} {ids : Nat → Nat × Nat} {w : World} {place : Nat → Option (Nat × Nat)} : ∀ (parts : List (Nat × V)) (vparts : List (Nat × Value)) (cells cs : List V) (arr : Array Value),
 All2 (fun p q=>p.1 = q.1 ∧ RepV A ids w p.2 q.2) parts vparts → Stands A ids w cells arr → ZbV place cells parts = some cs →
 ∃ arr',Instr.fill place arr vparts = some arr' ∧ Stands A ids w cs arr':=by
 intro parts
 induction parts with
 | nil=>
  intro vparts cells cs arr hp hs h
  cases hp
  simp only [ZbV,Option.some.injEq] at h
  subst h
  exact ⟨arr,rfl,hs⟩
 | cons p parts ih=>
  intro vparts cells cs arr hp hs h
  cases hp with
  | cons hq hp=>
   next q vparts=>
   obtain ⟨i,x⟩:=p
   obtain ⟨i',v⟩:=q
   obtain ⟨rfl,hr⟩:=hq
   simp only [ZbV,Option.bind_eq_some_iff] at h
   obtain ⟨⟨off,size⟩,hpl,xs,hxs,h⟩:=h
   dsimp only at h hr
   split at h
   · next hc=>
     obtain ⟨s1,s2⟩:=hr.cells hxs
     obtain ⟨arr',a1,a2⟩:=ih vparts _ cs _ hp (hs.splice ⟨s1,s2⟩ hc.2) h
     refine ⟨arr',?_,a2⟩
     rw [Instr.fill]
     simp only [hpl]
     rw [if_neg (by simp only [s1,ne_eq,Bool.or_eq_true,decide_eq_true_eq];rw [hs.1];omega)]
     have:=Zhc v.cells.toList arr off 0
     rw [← Array.foldl_toList,Array.toList_zipIdx] 
     simp only [Nat.add_zero] at this
     rw [this]
     exact a1
   · cases h
theorem ZbJ {m : Nm} {place : Nat → Option (Nat × Nat)} : ∀ (parts : List (Nat × V)) (cells cs : List V),(∀ p ∈ parts,p.2.Below m) → (∀ x ∈ cells,x.Below m) → ZbV place cells parts = some cs → ∀ x ∈ cs,x.Below m:=by
 intro parts
 induction parts with
 | nil=>intro cells cs _ hc h;simp only [ZbV,Option.some.injEq] at h;subst h;exact hc
 | cons p parts ih=>
  intro cells cs hp hc h
  obtain ⟨i,x⟩:=p
  simp only [ZbV,Option.bind_eq_some_iff] at h
  obtain ⟨q,_,xs,hxs,h⟩:=h
  split at h
  · refine ih _ cs (fun p hp'=>hp p (by simp [hp'])) (fun y hy=>?_) h
    rcases ZbS hy with hy | hy
    · exact hc y hy
    · exact V.cells_below (hp (i,x) (by simp)) hxs y hy
  · cases h
end
section
variable {P : Program} {tab : Tab}
structure StandsR (A : Nat → Prop) (ids : Nat → Nat × Nat) (w : World) (sz : Nat) (rows : List (List V)) (arr : Array Value) : Prop where
 wid : ∀ row ∈ rows,row.length = sz
 len : arr.size = rows.length * sz
 rep : ∀ (i : Nat) (row : List V) (j : Nat) (x : V),rows[i]? = some row → row[j]? = some x → ∃ v,arr[i * sz + j]? = some v ∧ RepV A ids w x v
theorem StandsR.append {A : Nat → Prop} {ids : Nat → Nat × Nat} {w : World} {sz : Nat} {r1 r2 : List (List V)} {a1 a2 : Array Value} (h1 : StandsR A ids w sz r1 a1) (h2 : StandsR A ids w sz r2 a2) : StandsR A ids w sz (r1 ++ r2) (a1 ++ a2) where
 wid:=fun row hr=>(List.mem_append.1 hr).elim (h1.wid row) (h2.wid row)
 len:=by simp [h1.len,h2.len,Nat.add_mul]
 rep:=fun i row j x hi hj=>by
  by_cases hl : i < r1.length
  · rw [List.getElem?_append_left hl] at hi
    obtain ⟨v,hv,hr⟩:=h1.rep i row j x hi hj
    have:=(Array.getElem?_eq_some_iff.1 hv).1
    exact ⟨v,by rw [Array.getElem?_append_left this];exact hv,hr⟩
  · rw [List.getElem?_append_right (by omega)] at hi
    obtain ⟨v,hv,hr⟩:=h2.rep _ row j x hi hj
    refine ⟨v,?_,hr⟩
    have e : i * sz + j = a1.size + ((i - r1.length) * sz + j):=by
     rw [h1.len]
     have : i * sz = r1.length * sz + (i - r1.length) * sz:=by rw [← Nat.add_mul];congr 1;omega
     omega
    rw [e,Array.getElem?_append_right (by omega)]
    rw [Nat.add_sub_cancel_left];exact hv
theorem Zjf (P : Program) {A : Nat → Prop} {ids : Nat → Nat × Nat} {w : World} {sz b o : Nat} {rows : List (List V)} (hw : ∀ row ∈ rows,row.length = sz)
 (hr : ∀ (i : Nat) (row : List V) (j : Nat) (x : V),rows[i]? = some row → row[j]? = some x → ∃ v,w.cell? ⟨b,o + (i * sz + j),none⟩ = some v ∧ RepV A ids w x v) :
 ∃ arr,(loadCells ⟨b,o,none⟩ (rows.length * sz)).run P w = .ok arr w ∧ StandsR A ids w sz rows arr:=by
 let c : Nat → Value:=fun k=>(w.cell? ⟨b,o + k,none⟩).getD default
 have hc : ∀ k,k < rows.length * sz → w.cell? ⟨b,o + k,none⟩ = some (c k):=by
  intro k hk
  have hsz : 0 < sz:=Nat.pos_of_ne_zero fun e=>by subst e;simp at hk
  have hi : k / sz < rows.length:=(Nat.div_lt_iff_lt_mul hsz).2 hk
  have hj : k % sz < (rows[k / sz]).length:=by rw [hw _ (List.getElem_mem hi)];exact Nat.mod_lt _ hsz
  obtain ⟨v,hv,_⟩:=hr (k / sz) rows[k / sz] (k % sz) (rows[k / sz][k % sz]) (by simp [hi]) (by simp [hj])
  rw [show k / sz * sz + k % sz = k by rw [Nat.mul_comm];exact Nat.div_add_mod k sz] at hv
  simp [c,hv]
 refine ⟨_,ZbW P w b o _ c hc,hw,by simp,fun i row j x hi hj=>?_⟩
 obtain ⟨v,hv,hrep⟩:=hr i row j x hi hj
 have hlt : i * sz + j < rows.length * sz:=ZgN (List.getElem?_eq_some_iff.1 hi).1 (by rw [← hw row (List.mem_of_getElem? hi)];exact (List.getElem?_eq_some_iff.1 hj).1)
 refine ⟨v,?_,hrep⟩
 have : c (i * sz + j) = v:=by simp [c,hv]
 simp [hlt,this]
def Reads (P : Program) (A : Nat → Prop) (ids : Nat → Nat × Nat) (w : World) (sz : Nat) (rows : List (List V)) (v : Value) : Prop:=
 ∃ a c,v = .slice a rows.length c ∧ rows.length ≤ c ∧ ∃ arr,(Builtin.firstCells sz rows.length v).run P w = .ok arr w ∧ StandsR A ids w sz rows arr
theorem Reads.nil (P : Program) {A : Nat → Prop} {ids : Nat → Nat × Nat} {w : World} {sz : Nat} (a : Option Addr) (c : Nat) : Reads P A ids w sz [] (.slice a 0 c):=
 ⟨a,c,rfl,Nat.zero_le _,#[],by cases a <;> simp [Builtin.firstCells,loadCells,loadCellsFrom],⟨by simp,by simp,by simp⟩⟩
theorem RepR.reads {A : Nat → Prop} {ids : Nat → Nat × Nat} {w : World} {p : Nat × Nat} {sz off len cap : Nat} {r : List (List V)} {ad : Option Addr} (h : RepR A ids w p sz r) (hl : len ≤ cap) (hr : off + len ≤ r.length)
 (ha : cap ≠ 0 → ad = some ⟨p.1,p.2 + off * sz,none⟩) : Reads P A ids w sz ((r.drop off).take len) (.slice ad len cap):=by
 have hl' : ((r.drop off).take len).length = len:=by simp;omega
 by_cases h0 : len = 0
 · subst h0;simpa using Reads.nil P ad cap
 · obtain rfl:=ha (by omega)
   obtain ⟨arr',T',b1,b2,b3,b4⟩:=h
   have hw : ∀ row ∈ (r.drop off).take len,row.length = sz:=fun row hr=>b3 row (List.mem_of_mem_drop (List.mem_of_mem_take hr))
   obtain ⟨arr2,p1,p2⟩:=Zjf P (A:=A) (ids:=ids) (w:=w) (b:=p.1) (o:=p.2 + off * sz) hw (fun i row j x hi hj=>by
    have hlt : i < len:=by have:=(List.getElem?_eq_some_iff.1 hi).1;omega
    rw [List.getElem?_take_of_lt hlt,List.getElem?_drop] at hi
    obtain ⟨v,hv,hrep⟩:=b4 (off + i) row j x hi hj
    refine ⟨v,?_,hrep⟩
    rw [ZbT b1,← hv];congr 1;rw [Nat.add_mul];omega)
   refine ⟨_,cap,by rw [hl'],by rw [hl'];exact hl,arr2,?_,p2⟩
   simpa [Builtin.firstCells] using p1
theorem RepD.reads {A : Nat → Prop} {ids : Nat → Nat × Nat} {w : World} {sz : Nat} {rows : List (List D)} {v : Value} (h : RepD A w (.lst sz rows) v) : Reads P A ids w sz (YG rows) v:=by
 cases h with
 | emp _ a cap=>exact Reads.nil P a cap
 | lst _ _ b o cap cell hcap hb hA hwd hcell hdd=>
  have hw : ∀ row ∈ YG rows,row.length = sz:=fun row hr=>by obtain ⟨rd,hrd,rfl⟩:=List.mem_map.1 hr;simpa using hwd rd hrd
  obtain ⟨arr2,p1,p2⟩:=Zjf P (A:=A) (ids:=ids) (w:=w) (b:=b) (o:=o) hw (fun i row j x hi hj=>by
   rw [Y7,Option.map_eq_some_iff] at hi
   obtain ⟨rd,hi,rfl⟩:=hi
   rw [List.getElem?_map,Option.map_eq_some_iff] at hj
   obtain ⟨d,hj,rfl⟩:=hj
   exact ⟨_,hcell i rd j d hi hj,(hdd i rd j d hi hj).toV⟩)
  refine ⟨some ⟨b,o,none⟩,cap,by simp [YG],by simpa [YG] using hcap,arr2,?_,p2⟩
  simpa [Builtin.firstCells,YG] using p1
theorem Y8 {F : Nat → Prop} {ids : Nat → Nat × Nat} {w : World} {h : Hp} {nx : Nm} {sz : Nat} (hh : RepH F ids w h nx) {x : V} {vx : Value} {src : List (List V)} (hx : RepV (Ze F h ids) ids w x vx) (hs : YO h x = some src)
 (hw : ∀ row ∈ src,row.length = sz) : Reads P (Ze F h ids) ids w sz src vx ∧ (∀ row ∈ src,∀ x ∈ row,x.Below nx):=by
 unfold YO at hs
 split at hs
 · next n sz' off len=>
   rw [Option.bind_eq_some_iff] at hs
   obtain ⟨r,hr,hs⟩:=hs
   have hn:=ZdE hr
   split at hs
   case isFalse=>cases hs
   next hlen=>
   cases hs
   refine ⟨?_,fun row hrow x hx=>hh.below n _ hn row (List.mem_of_mem_drop (List.mem_of_mem_take hrow)) x hx⟩
   cases hx with
   | sl _ _ _ _ cap ad hl hc=>
    have hb:=hh.blk n _ hn
    by_cases h0 : len = 0
    · subst h0;simpa using Reads.nil P ad cap
    · have hszs : sz' = sz:=by
       have h0' : off < r.length:=by omega
       have:=hw r[off] (by
        have : ((r.drop off).take len)[0]? = some r[off]:=by rw [List.getElem?_take_of_lt (by omega),List.getElem?_drop];simp [h0']
        exact List.mem_of_getElem? this)
       obtain ⟨_,_,_,_,b3,_⟩:=hb
       rw [← this];exact (b3 _ (List.getElem_mem h0')).symm
      subst hszs
      exact RepR.reads hb hl hlen fun h=>by obtain ⟨_,_,_,h2,_⟩:=hc h;exact h2
 · cases hs
theorem Zo (r : List (List D)) : (YG r).length = r.length:=by simp [YG]
theorem Zcn (r : List (List D)) (a b : Nat) : YG ((r.drop a).take b) = ((YG r).drop a).take b:=by simp [YG,List.map_take,List.map_drop]
theorem QR (r s : List (List D)) : YG (r ++ s) = YG r ++ YG s:=by simp [YG]
theorem ZfR {r : List (List D)} : YG r = [] ↔ r = []:=by simp [YG]
theorem YX {F : Nat → Prop} {ids : Nat → Nat × Nat} {w : World} {h : Hp} {nx : Nm} {sz : Nat} (hh : RepH F ids w h nx) {x : V} {vx : Value} {src : List (List D)} (hx : RepV (Ze F h ids) ids w x vx) (hs : Q9 h sz x = some src) :
 Reads P (Ze F h ids) ids w sz (YG src) vx:=by
 unfold Q9 at hs
 split at hs
 · next sz' rows cl=>
   split at hs
   case isFalse=>cases hs
   next e=>
   cases hs;subst e
   cases hx with | lst _ _ _ _ hd _=>exact hd.reads
 · cases hs;cases hx;exact Reads.nil P none 0
 · next n sz' len=>
   split at hs
   case isFalse=>cases hs
   next e=>
   subst e
   rw [Option.bind_eq_some_iff] at hs
   obtain ⟨r,hr,hs⟩:=hs
   split at hs
   case isFalse=>cases hs
   next e=>
   cases hs
   have hn:=Qy hr
   cases hx with
   | ac0=>
    have : src = []:=List.length_eq_zero_iff.1 e.symm
    subst this
    exact Reads.nil P _ 0
   | ac1 _ _ _ _ h0 hx=>
    cases hx with
    | sl _ _ _ _ cap ad hl hc=>
     have hne : src ≠ []:=by rintro rfl;exact h0 e
     have:=RepR.reads (P:=P) ((hh.blk n _ hn).1 hne) (off:=0) hl (by rw [Zo];omega) fun h=>by obtain ⟨_,_,_,h2,_⟩:=hc h;exact h2
     rwa [List.drop_zero,List.take_of_length_le (by rw [Zo];omega)] at this
 · next n sz' off len=>
   split at hs
   case isFalse=>cases hs
   next e=>
   subst e
   rw [Option.bind_eq_some_iff] at hs
   obtain ⟨r,hr,hs⟩:=hs
   split at hs
   case isFalse=>cases hs
   next e=>
   cases hs
   have hn:=Qy hr
   cases hx with
   | sl _ _ _ _ cap ad hl hc=>
    by_cases hne : r = []
    · subst hne
      obtain rfl : len = 0:=by simp at e;omega
      simpa [YG] using Reads.nil P ad cap
    · have:=RepR.reads (P:=P) ((hh.blk n _ hn).1 hne) (off:=off) hl (by rw [Zo];omega) fun h=>by obtain ⟨_,_,_,h2,_⟩:=hc h;exact h2
      rwa [← Zcn] at this
 · cases hs
theorem ZkK (n : Nat) : ∀ (r c : Nat),c < n → Builtin.growBy n r c ≤ 2 * n + 192:=by
 intro r
 induction r with
 | zero=>intro c h;simp [Builtin.growBy];omega
 | succ r ih=>
  intro c h
  rw [Builtin.growBy]
  split
  · omega
  · by_cases h2 : c + (c + 768) / 4 < n
    · exact ih _ h2
    · cases r with
      | zero=>simp [Builtin.growBy];omega
      | succ r=>rw [Builtin.growBy,if_pos (by omega)];omega
theorem Za1 {need cap : Nat} (h : cap < need) : Builtin.nextslicecap need cap ≤ 2 * need + 192:=by
 unfold Builtin.nextslicecap
 split
 · omega
 · split
   · omega
   · exact ZkK _ _ _ h
theorem Chg.drew {F : Nat → Prop} {ids : Nat → Nat × Nat} {w : World} {h : Hp} {nx : Nm} (hh : RepH F ids w h nx) : Chg F ids w h nx ids w.drew h nx:=by
 have hg:=Goes.drew (Ze F h ids) w
 refine ⟨⟨hh.lt,fun n b hb=>(hh.blk n b hb).mono hg (fun _ _ x=>x) (fun _ _=>rfl) (hh.below n b hb) (fun _=>rfl),hh.below,hh.inj,hh.out,hh.fsz⟩,Goes.drew _ _,fun _ _ x=>x,fun _ _=>rfl,Nm.le_refl _⟩
theorem Zpb {α : Type} (f : Nat → α) {n m : Nat} (h : n ≠ m) (x y : α) : upd (upd f n x) m y = upd (upd f m y) n x:=by
 funext k;unfold upd;split <;> split <;> first | rfl | omega
theorem StandsR.oneCells {A : Nat → Prop} {ids : Nat → Nat × Nat} {w : World} {sz : Nat} {rows : List (List V)} {arr : Array Value} (h : StandsR A ids w sz rows arr) (hl : ∀ row ∈ rows,row.all V.leaf = true) : ∀ v ∈ arr.toList,v.oneCell' = true:=by
 intro v hv
 obtain ⟨k,hk,rfl⟩:=List.getElem_of_mem hv
 simp only [Array.length_toList,h.len] at hk
 have hsz : 0 < sz:=Nat.pos_of_ne_zero fun e=>by subst e;simp at hk
 have hi : k / sz < rows.length:=(Nat.div_lt_iff_lt_mul hsz).2 hk
 have hj : k % sz < (rows[k / sz]).length:=by rw [h.wid _ (List.getElem_mem hi)];exact Nat.mod_lt _ hsz
 obtain ⟨v,hv,hr⟩:=h.rep (k / sz) rows[k / sz] (k % sz) (rows[k / sz][k % sz]) (by simp [hi]) (by simp [hj])
 rw [show k / sz * sz + k % sz = k by rw [Nat.mul_comm];exact Nat.div_add_mod k sz] at hv
 have:=hr.leaf1 (List.all_eq_true.1 (hl _ (List.getElem_mem hi)) _ (List.getElem_mem hj))
 rw [Array.getElem?_eq_some_iff] at hv
 obtain ⟨_,hv⟩:=hv
 simp only [Array.getElem_toList]
 rw [hv];exact this
end
section
variable {P : Program} {tab : Tab}
def ZnB (base : Option Addr) (k : Nat) (l : List Value) : Sem Unit:=
 match base with
 | some b=>storeCells (b.add k) l
 | none=>pure ()
theorem Zfj (ht : Zk P tab) {t t' T e : TypeId} {τ τ' ε : Ty} (hτ : tab t = some τ) (hk : τ.kind = .slice e) (he : tab e = some ε) (hτ' : tab t' = some τ') (hk' : ∃ e',τ'.kind = .slice e') {w : World}
 {base : Option Addr} {sLen sCap n : Nat} {a : Option Addr} {c : Nat} (hb : ε.bytes ≤ 4096) (hneed : sLen + n < 2147483648) :
 (sLen + n ≤ sCap → ∀ arr : Array Value,(Builtin.firstCells ε.size n (.slice a n c)).run P w = .ok arr w → (Builtin.append_ #[t,t'] T #[.slice base sLen sCap,.slice a n c]).run P w = ((ZnB base (sLen * ε.size) arr.toList).run P w).andThen fun _ w'=>.ok (.slice base (sLen + n) sCap) w') ∧
 (¬ sLen + n ≤ sCap → ∃ newCap,sLen + n ≤ newCap ∧ ∀ old arr : Array Value,(Builtin.firstCells ε.size sLen (.slice base sLen sCap)).run P w.drew = .ok old w.drew → (Builtin.firstCells ε.size n (.slice a n c)).run P w.drew = .ok arr w.drew →
  ∃ rest : Array Value,rest.size = (newCap - (sLen + n)) * ε.size ∧
   (Builtin.append_ #[t,t'] T #[.slice base sLen sCap,.slice a n c]).run P w = .ok (.slice (some ⟨w.heap.size,0,none⟩) (sLen + n) newCap) (w.drew.alloc (.cells (old ++ arr ++ rest) e))):=by
 have hd:=ZK ht hτ hk
 have hez:=(ht e ε he).sizeOf
 have hi:=fun w=>(ht e ε he).typeInfo w
 obtain ⟨e',hk'⟩:=hk'
 have hd':=ZK ht hτ' hk'
 refine ⟨fun hle arr this=>?_,fun hgt=>?_⟩
 ·     cases base <;> simp [ZnB,Builtin.append_,hd,hd',hez,Builtin.lenOf,hle,this]
 · obtain ⟨z,hz,hzc⟩:=(ht e ε he).zero w.drew
   have hzl:=(ht e ε he).zlen
   obtain ⟨i,hi1,hi2⟩:=hi w
   obtain ⟨i',hi1',hi2'⟩:=hi w.drew
   have hsz : ¬ 281474976710656 < Builtin.nextslicecap (sLen + n) sCap * i.bytes:=by
    have h1:=Za1 (need:=sLen + n) (cap:=sCap) (by omega)
    have h2 : Builtin.nextslicecap (sLen + n) sCap * i.bytes ≤ (2 * (sLen + n) + 192) * 4096:=Nat.mul_le_mul h1 (by omega)
    omega
   have hmx : ¬ (9223372036854775807 : Int) < (sLen : Int) + n:=by omega
   have hforced : (Question.appendCap (sLen + n) sCap e).forced = false:=rfl
   refine ⟨(Question.appendCap (sLen + n) sCap e).cut (w.tape w.drawn (.appendCap (sLen + n) sCap e)),by simp only [Question.cut];omega,fun old arr hold hs2=>?_⟩
   refine ⟨Builtin.zeroCells z.cells ((Question.appendCap (sLen + n) sCap e).cut (w.tape w.drawn (.appendCap (sLen + n) sCap e)) - (sLen + n)),by simp [Builtin.zeroCells,hzc,hzl],?_⟩
   simp [Builtin.append_,hd,hd',hez,Builtin.lenOf,hgt,hi1,hmx,hsz,hforced,hi1',hold,hs2,hz,newRow]
theorem Z0 {t : TypeId} {ε : Ty} (h : Zy tab t = some ε) : ∃ τ e,tab t = some τ ∧ τ.kind = .slice e ∧ tab e = some ε:=by
 unfold Zy at h
 rw [Option.bind_eq_some_iff] at h
 obtain ⟨τ,hτ,h⟩:=h
 split at h
 · next e hk=>exact ⟨τ,e,hτ,hk,h⟩
 · cases h
theorem Zjd {w : World} {b : Nat} {o : Obj} (h : w.heap[b]? = some o) : World.put w b o = w:=by
 unfold World.put
 have e : w.heap.setIfInBounds b o = w.heap:=by
  apply Array.ext_getElem?
  intro i
  rw [Array.getElem?_setIfInBounds]
  split
  · next e=>subst e;rw [h,if_pos (Array.getElem?_eq_some_iff.1 h).1]
  · rfl
 rw [e]
inductive Room (F : Nat → Prop) (ids : Nat → Nat × Nat) (w : World) (h : Hp) (Z : Nat → Prop) (sz : Nat) (old src : List (List V)) (base : Option Addr) (cap : Nat) : Prop
 | full (hc : cap < old.length + src.length) : Room F ids w h Z sz old src base cap
 | own (n off : Nat) (b : B) (arr : Array Value) (T : TypeId) (hZ : ∀ m,Z m ↔ m = n) (hn : h n = some b) (hr : b.real = true) (hb : w.heap[(ids n).1]? = some (.cells arr T (0,0)))
  (ha : cap ≠ 0 → base = some ⟨(ids n).1,(ids n).2 + off * sz,none⟩) (hs : (ids n).2 + (off + cap) * sz ≤ arr.size)
  (ho : ∀ (i : Nat) (row : List V) (j : Nat) (x : V),old[i]? = some row → row[j]? = some x → ∃ v,arr[(ids n).2 + off * sz + (i * sz + j)]? = some v ∧ RepV (Ze F h ids) ids w x v) : Room F ids w h Z sz old src base cap
theorem Room.fully {F : Nat → Prop} {ids : Nat → Nat × Nat} {w : World} {h : Hp} {Z : Nat → Prop} {sz : Nat} {old src : List (List V)} {base : Option Addr} {cap : Nat} (hc : cap = old.length) (hne : src ≠ []) : Room F ids w h Z sz old src base cap:=
 .full (by have:=List.length_pos_iff.2 hne;omega)
theorem YE (ht : Zk P tab) {F : Nat → Prop} {ids : Nat → Nat × Nat} {w : World} {h : Hp} {nx : Nm} {nm : Nat} (hh : RepH F ids w h nx) (hnm : ¬ nx nm) {t t' T e : TypeId} {τ τ' ε : Ty} (hτ : tab t = some τ) (hk : τ.kind = .slice e) (he : tab e = some ε)
 (hτ' : tab t' = some τ') (hk' : ∃ e',τ'.kind = .slice e') (hb : ε.bytes ≤ 4096) {old src : List (List V)} (hsmall : old.length + src.length < 2147483648) {Z : Nat → Prop} [DecidablePred Z] {base : Option Addr} {cap : Nat} {vx : Value}
 (ho : Reads P (Ze F h ids) ids w ε.size old (.slice base old.length cap)) (ho' : Reads P (Ze F h ids) ids w.drew ε.size old (.slice base old.length cap))
 (hx : Reads P (Ze F h ids) ids w ε.size src vx) (hx' : Reads P (Ze F h ids) ids w.drew ε.size src vx)
 (hbo : ∀ row ∈ old,∀ x ∈ row,x.Below nx) (hbx : ∀ row ∈ src,∀ x ∈ row,x.Below nx) (hleaf : ∀ row ∈ src,row.all V.leaf = true)
 (hroom : Room F ids w h Z ε.size old src base cap) :
 ∃ val w' ids',((do pure (Next.value (← Builtin.append_ #[t,t'] T #[.slice base old.length cap,vx])) : Sem Next).run P w) = .ok (.value val) w' ∧
  Chg F ids w h nx ids' w' (upd (fun n=>if Z n then none else h n) nm (some (.rows ε.size (old ++ src)))) (nx.add nm) ∧
  ∀ A,RepV A ids' w' (.sl nm ε.size 0 (old.length + src.length)) val:=by
 obtain ⟨_,_,e0,hlc,old1,hold1,hso1⟩:=ho
 cases e0
 obtain ⟨a,c,rfl,hnc,arr,harr,hst⟩:=hx
 obtain ⟨r1,r2⟩:=Zfj (P:=P) (T:=T) ht hτ hk he hτ' hk' (w:=w) (base:=base) (sLen:=old.length) (sCap:=cap) (n:=src.length) (a:=a) (c:=c) hb hsmall
 by_cases hfit : old.length + src.length ≤ cap
 · have hrun:=r1 hfit arr harr
   cases hroom with
   | full hc=>exact absurd hfit (by omega)
   | own n off b arr0 T0 hZ hn hr hb0 ha hs hold=>
    have hlt:=(Array.getElem?_eq_some_iff.1 hb0).1
    have hroom : (ids n).2 + off * ε.size + old.length * ε.size + arr.toList.length ≤ arr0.size:=by
     simp only [Array.length_toList,hst.len]
     have : (off + (old.length + src.length)) * ε.size ≤ (off + cap) * ε.size:=Nat.mul_le_mul_right _ (by omega)
     rw [Nat.add_mul,Nat.add_mul] at this
     omega
    obtain ⟨arr',harr'⟩ : ∃ a,a = splice arr0 ((ids n).2 + off * ε.size + old.length * ε.size) arr.toList:=⟨_,rfl⟩
    have hsz' : arr'.size = arr0.size:=by rw [harr'];exact Y5 _ _ _
    have hget : ∀ k,arr'[k]? = if (ids n).2 + off * ε.size + old.length * ε.size ≤ k ∧ k < (ids n).2 + off * ε.size + old.length * ε.size + arr.toList.length then arr.toList[k - ((ids n).2 + off * ε.size + old.length * ε.size)]? else arr0[k]?:=by
     intro k;rw [harr'];exact Zbj _ _ _ _ hroom
    have hput : arr.toList = [] → World.put w (ids n).1 (.cells arr' T0 (0,0)) = w:=fun hz=>by
     have : arr' = arr0:=by rw [harr',hz];rfl
     rw [this];exact Zjd hb0
    have hstore : (ZnB base (old.length * ε.size) arr.toList).run P w = .ok () (World.put w (ids n).1 (.cells arr' T0 (0,0))):=by
     by_cases hz : arr.toList = []
     · rw [hput hz]
       cases base <;> simp only [ZnB,hz,storeCells] <;> rfl
     · have hpos : 0 < src.length * ε.size:=by rw [← hst.len];exact Nat.pos_of_ne_zero fun e=>hz (by simpa using Array.eq_empty_of_size_eq_zero e)
       have hsp : 0 < src.length:=Nat.pos_of_ne_zero fun e=>by rw [e] at hpos;simp at hpos
       obtain rfl:=ha (by omega)
       have hrun2:=Q6 P (ids n).1 T0 arr.toList (hst.oneCells hleaf) w ((ids n).2 + off * ε.size + old.length * ε.size) 0 arr0 hb0 (by omega)
       rw [if_neg hz] at hrun2
       simp only [ZnB,Z8]
       rw [harr']
       exact hrun2
    rw [hstore] at hrun
    have hgo : Goes (fun c=>∃ n x,Z n ∧ h n = some x ∧ x.real = true ∧ (ids n).1 = c) w (World.put w (ids n).1 (.cells arr' T0 (0,0))):=by
     refine ⟨Nat.le_of_eq (Zbk _ _ _).symm,fun c _ hc=>Zz _ _ _ _ fun e=>hc ⟨n,b,(hZ n).2 rfl,hn,hr,e.symm⟩,fun c arr1 T1 fz hc=>?_,fun c es k hc=>?_,⟨rfl,rfl⟩,fun a=>?_⟩
     · by_cases e : c = (ids n).1
       · subst e
         rw [hb0] at hc;cases hc
         exact ⟨_,ZQ _ _ _ hlt,hsz'⟩
       · exact ⟨arr1,by rw [Zz _ _ _ _ e];exact hc,rfl⟩
     · by_cases e : c = (ids n).1
       · subst e;rw [hb0] at hc;cases hc
       · exact ⟨es,k,by rw [Zz _ _ _ _ e];exact hc⟩
     · by_cases e : a.block = (ids n).1
       · exact QP (by rw [e];exact hb0) (by rw [e,ZQ _ _ _ hlt])
       · exact YZ (Zz _ _ _ _ e)
    have hga : Goes (Ze F h ids) w (World.put w (ids n).1 (.cells arr' T0 (0,0))):=hgo.weaken fun c _ ⟨n,x,_,hx,hxr,e⟩=>.inr ⟨n,x,hx,hxr,e⟩
    have hchg:=Chg.name hh hnm Z ((ids n).1,(ids n).2 + off * ε.size) (.rows ε.size (old ++ src)) hgo
     (fun row hrow x hx=>((List.mem_append.1 hrow).elim (fun h=>hbo row h x hx) (fun h=>hbx row h x hx)).mono (Nm.le_add _ _)) (fun _=>.inr ⟨n,b,(hZ n).2 rfl,hn,hr,rfl⟩) fun ids' A hi hA=>by
      refine ⟨arr',T0,ZQ _ _ _ hlt,?_,fun row hrow=>(List.mem_append.1 hrow).elim (hso1.wid row) (hst.wid row),fun i row j x hi' hj=>?_⟩
      · simp only [List.length_append,Nat.add_mul]
        rw [hsz']
        simp only [Array.length_toList,hst.len] at hroom
        omega
      · simp only [hget]
        by_cases hil : i < old.length
        · rw [List.getElem?_append_left hil] at hi'
          obtain ⟨v,hv,hrep⟩:=hold i row j x hi' hj
          have hin : i * ε.size + j < old.length * ε.size:=ZgN hil (by rw [← hso1.wid row (List.mem_of_getElem? hi')];exact (List.getElem?_eq_some_iff.1 hj).1)
          rw [if_neg (by omega)]
          exact ⟨v,hv,hrep.mono hga hA hi (hbo row (List.mem_of_getElem? hi') x (List.mem_of_getElem? hj))⟩
        · rw [List.getElem?_append_right (by omega)] at hi'
          obtain ⟨v,hv,hrep⟩:=hst.rep _ row j x hi' hj
          have hlt:=(Array.getElem?_eq_some_iff.1 hv).1
          have e : i * ε.size = old.length * ε.size + (i - old.length) * ε.size:=by rw [← Nat.add_mul];congr 1;omega
          rw [if_pos (by simp;omega)]
          refine ⟨v,?_,hrep.mono hga hA hi (hbx row (List.mem_of_getElem? hi') x (List.mem_of_getElem? hj))⟩
          rw [show (ids n).2 + off * ε.size + (i * ε.size + j) - ((ids n).2 + off * ε.size + old.length * ε.size) = (i - old.length) * ε.size + j by omega]
          simpa using hv
    refine ⟨_,_,_,by simp only [Sem.run_bind,hrun];rfl,hchg,fun A=>.sl _ _ _ _ _ _ hfit fun h0=>?_⟩
    refine ⟨arr',T0,by rw [Zb];exact ZQ _ _ _ hlt,by rw [Zb];simpa using ha h0,?_⟩
    rw [Zb]
    rw [hsz',Nat.zero_add]
    have : (off + cap) * ε.size = off * ε.size + cap * ε.size:=Nat.add_mul _ _ _
    dsimp only;omega
 · obtain ⟨newCap,hcap,r2⟩:=r2 hfit
   obtain ⟨_,_,e1,_,old',hold',hso'⟩:=ho'
   cases e1
   obtain ⟨_,_,e1,_,arr',harr',hst'⟩:=hx'
   cases e1
   obtain ⟨rest,hrest,r2⟩:=r2 old' arr' hold' harr'
   have hboth:=hso'.append hst'
   have hg : Goes (fun c=>∃ n x,Z n ∧ h n = some x ∧ x.real = true ∧ (ids n).1 = c) w (w.drew.alloc (.cells (old' ++ arr' ++ rest) e)):=(Goes.drew _ w).trans (Goes.alloc _ _ _) (fun _ _ x=>x)
   have hga : Goes (Ze F h ids) w.drew (w.drew.alloc (.cells (old' ++ arr' ++ rest) e)):=Goes.alloc _ _ _
   have hbb : ∀ row ∈ old ++ src,∀ x ∈ row,x.Below nx:=fun row hrow x hx=>(List.mem_append.1 hrow).elim (fun h=>hbo row h x hx) (fun h=>hbx row h x hx)
   have hchg:=Chg.name hh hnm Z (w.heap.size,0) (.rows ε.size (old ++ src)) hg (fun row hrow x hx=>(hbb row hrow x hx).mono (Nm.le_add _ _)) (fun _=>.inl ⟨Nat.le_refl _,by simp⟩) fun ids' A hi hA=>by
    refine ⟨_,e,Yx _ _,?_,hboth.wid,fun i row j x hi' hj=>?_⟩
    · rw [Array.size_append,hboth.len];dsimp only;omega
    · obtain ⟨v,hv,hr⟩:=hboth.rep i row j x hi' hj
      have:=(Array.getElem?_eq_some_iff.1 hv).1
      refine ⟨v,?_,hr.mono hga hA hi (hbb row (List.mem_of_getElem? hi') x (List.mem_of_getElem? hj))⟩
      dsimp only
      rw [Nat.zero_add,Array.getElem?_append_left this];exact hv
   refine ⟨_,_,_,by simp only [Sem.run_bind,r2];rfl,hchg,fun A=>.sl _ _ _ _ _ _ hcap fun h0=>?_⟩
   refine ⟨_,e,by rw [Zb];exact Yx _ _,by rw [Zb];simp,?_⟩
   rw [Zb]
   simp only [Array.size_append,hso'.len,hst'.len,hrest,Nat.zero_add]
   rw [← Nat.add_mul,← Nat.add_mul];exact Nat.le_of_eq (by congr 1;omega)
theorem YV {r : List (List D)} (h : leaves r) : ∀ row ∈ YG r,row.all V.leaf = true:=by
 intro row hrow
 obtain ⟨rd,hrd,rfl⟩:=List.mem_map.1 hrow
 rw [List.all_eq_true]
 intro x hx
 obtain ⟨d,hd,rfl⟩:=List.mem_map.1 hx
 have:=List.all_eq_true.1 (h rd hrd) d hd
 cases d <;> first | rfl | exact this
theorem RepD.leaves {A : Nat → Prop} {w : World} {sz : Nat} {rows : List (List D)} {v : Value} (h : RepD A w (.lst sz rows) v) : leaves rows:=by
 cases h with
 | emp=>simp [Abs.leaves]
 | lst _ _ b o cap cell hcap hb hA hwd hcell hdd=>
  intro row hrow
  obtain ⟨i,hi⟩:=List.getElem?_of_mem hrow
  rw [List.all_eq_true]
  intro d hd
  obtain ⟨j,hj⟩:=List.getElem?_of_mem hd
  have:=hdd i row j d hi hj
  generalize cell i j = u at this
  cases this <;> first | rfl | assumption
theorem Zbl {r s : List (List D)} (h : leaves r) (h' : leaves s) : leaves (r ++ s):=fun row hr=>(List.mem_append.1 hr).elim (h row) (h' row)
theorem Zan {r : List (List D)} (h : leaves r) (a b : Nat) : leaves ((r.drop a).take b):=fun row hr=>h row (List.mem_of_mem_drop (List.mem_of_mem_take hr))
theorem Zhn {F : Nat → Prop} {ids : Nat → Nat × Nat} {w : World} {h : Hp} {nx : Nm} {sz : Nat} (hh : RepH F ids w h nx) {x : V} {vx : Value} {src : List (List D)} (hx : RepV (Ze F h ids) ids w x vx) (hs : Q9 h sz x = some src) : leaves src:=by
 unfold Q9 at hs
 split at hs
 · split at hs
   · cases hs;cases hx with | lst _ _ _ _ hd _=>exact hd.leaves
   · cases hs
 · cases hs;simp [leaves]
 · split at hs
   · rw [Option.bind_eq_some_iff] at hs
     obtain ⟨r,hr,hs⟩:=hs
     split at hs
     · cases hs;exact (hh.blk _ _ (Qy hr)).2
     · cases hs
   · cases hs
 · split at hs
   · rw [Option.bind_eq_some_iff] at hs
     obtain ⟨r,hr,hs⟩:=hs
     split at hs
     · cases hs;exact Zan (hh.blk _ _ (Qy hr)).2 _ _
     · cases hs
   · cases hs
 · cases hs
theorem Zfx (ht : Zk P tab) {F : Nat → Prop} {ids : Nat → Nat × Nat} {w : World} {h h' : Hp} {nx : Nm} {nm : Nat} (hh : RepH F ids w h nx) (hn : ¬ nx nm) {t t' T : TypeId} {τ' : Ty} {s x v : V} {vs vx : Value}
 (hs : RepV (Ze F h ids) ids w s vs) (hx : RepV (Ze F h ids) ids w x vx) (hbs : s.Below nx) (hbx : x.Below nx) (hτ' : tab t' = some τ') (hk' : ∃ e',τ'.kind = .slice e')
 (ha : YI tab nm h t s x = some (v,h')) : OpOk F ids w h nx ((do pure (Next.value (← Builtin.append_ #[t,t'] T #[vs,vx])) : Sem Next).run P w) v h' (nx.add nm):=by
 unfold YI at ha
 rw [Option.bind_eq_some_iff] at ha
 obtain ⟨ε,hε,ha⟩:=ha
 split at ha
 case isFalse=>cases ha
 next hbytes=>
 obtain ⟨τ,e,hτ,hk,he⟩:=Z0 hε
 have hdr:=Chg.drew hh
 split at ha
 · next src hsrc=>
   have hrd:=YX (P:=P) hh hx hsrc
   have hrd':=YX (P:=P) hdr.heap (hdr.rep hx hbx) hsrc
   have hlv:=Zhn hh hx hsrc
   have fin : ∀ {old : List (List D)} {Z : Nat → Prop} [DecidablePred Z] {ids' : Nat → Nat × Nat} {w' : World} {h1 : Hp},h1 = (fun n=>if Z n then none else h n) → leaves old → Chg F ids w h nx ids' w' (upd h1 nm (some (.rows ε.size (YG old ++ YG src)))) (nx.add nm) →
    Chg F ids w h nx ids' w' (upd h1 nm (some (.dat ε.size (old ++ src)))) (nx.add nm):=by
    intro old Z _ ids' w' h1 _ hlo hc
    have h2:=Chg.unsee (n:=nm) (sz:=ε.size) (r:=old ++ src) hc.heap (by rw [Zb,QR]) (Zbl hlo hlv)
    have h3:=hc.trans h2
    have e : ∀ (b1 b2 : Option B),upd (upd h1 nm b1) nm b2 = upd h1 nm b2:=fun b1 b2=>by funext m;unfold upd;split <;> rfl
    rwa [e] at h3
   have noZ : (fun n=>if (fun _ : Nat=>False) n then none else h n) = h:=by funext n;simp
   have acc : ∀ {ids' : Nat → Nat × Nat} {w' : World} {h1 : Hp} {len : Nat} {val : Value},(∀ A,RepV A ids' w' (.sl nm ε.size 0 len) val) → len ≠ 0 → RepV (Ze F h1 ids') ids' w' (.ac nm ε.size len) val:=fun hv h0=>.ac1 _ _ _ _ h0 (hv _)
   have none0 : ∀ (ad : Option Addr) (h1 : Hp),(∀ m c,h1 m = some c → h m = some c) → src = [] → ∃ ids',((do pure (Next.value (← Builtin.append_ #[t,t'] T #[.slice ad 0 0,vx])) : Sem Next).run P w) = .ok (.value (.slice ad 0 0)) w ∧ Chg F ids w h nx ids' w (upd h1 nm (some (.dat ε.size []))) (nx.add nm):=by
    intro ad h1 hl hsr
    subst hsr
    obtain ⟨a,c,rfl,hnc,arr,harr,hst⟩:=hrd
    obtain ⟨r1,_⟩:=Zfj (P:=P) (T:=T) ht hτ hk he hτ' hk' (w:=w) (base:=ad) (sLen:=0) (sCap:=0) (n:=0) (a:=a) (c:=c) hbytes (by omega)
    have harr0 : arr = #[]:=by have:=hst.len;simp [YG] at this;exact this
    subst harr0
    have:=r1 (Nat.le_refl _) #[] harr
    refine ⟨_,?_,(Chg.less hh hl).trans (Chg.ghost (Chg.less hh hl).heap hn)⟩
    simp only [Sem.run_bind,YG,List.map_nil,List.length_nil,this]
    cases ad <;> rfl
   split at ha
   · -- nil
     cases hs
     split at ha
     case isFalse=>cases ha
     next hsmall=>
     cases ha
     by_cases hne : src = []
     · obtain ⟨ids',r1,r2⟩:=none0 none h (fun _ _ h=>h) hne
       subst hne
       exact OpOk.made r2 r1 (.ac0 _ _ _) (.ac _ _ _ (.inr rfl))
     · obtain ⟨val,w',ids',r1,r2,r3⟩:=YE (P:=P) (T:=T) ht hh hn hτ hk he hτ' hk' hbytes (old:=[]) (src:=YG src) (by simpa [Zo] using hsmall) (Z:=fun _=>False) (Reads.nil P none 0) (Reads.nil P none 0) hrd hrd' (by simp) (ZJ nx src) (YV hlv) (.fully rfl (by simpa [ZfR] using hne))
       have r2':=fin (old:=[]) rfl (by simp [leaves]) r2
       rw [noZ,List.nil_append] at r2'
       simp only [List.length_nil,Nat.zero_add,Zo] at r3
       exact OpOk.made r2' r1 (acc r3 (by simpa using hne)) (.ac _ _ _ (.inr rfl))
   · -- immutable data, without room
     next sz rows clip=>
     split at ha
     case isFalse=>cases ha
     next hcond=>
     obtain ⟨rfl,rfl,hsmall,hne⟩:=hcond
     cases ha
     have hs2:=hdr.rep hs hbs
     cases hs with
     | lst _ _ _ _ hrdd hcl=>
     cases hs2 with
     | lst _ _ _ _ hrdd' _=>
     obtain ⟨ad,rfl⟩:=hcl rfl
     have o1:=hrdd.reads (P:=P) (ids:=ids)
     have o2:=hrdd'.reads (P:=P) (ids:=ids)
     by_cases hn0 : src = []
     · obtain rfl:=hne hn0
       obtain ⟨ids',r1,r2⟩:=none0 ad h (fun _ _ h=>h) hn0
       subst hn0
       exact OpOk.made r2 r1 (.ac0 _ _ _) (.ac _ _ _ (.inr rfl))
     · rw [← Zo rows] at o1 o2
       obtain ⟨val,w',ids',r1,r2,r3⟩:=YE (P:=P) (T:=T) ht hh hn hτ hk he hτ' hk' hbytes (old:=YG rows) (src:=YG src) (by simpa [Zo] using hsmall) (Z:=fun _=>False) o1 o2 hrd hrd' (ZJ nx rows) (ZJ nx src) (YV hlv) (.fully rfl (by simpa [ZfR] using hn0))
       have r2':=fin rfl hrdd.leaves r2
       rw [noZ] at r2'
       simp only [Zo] at r3 r1
       have:=List.length_pos_iff.2 hn0
       exact OpOk.made r2' r1 (acc r3 (by omega)) (.ac _ _ _ (.inr rfl))
   · -- what was collected before
     next n sz len=>
     rw [Option.bind_eq_some_iff] at ha
     obtain ⟨r,hr,ha⟩:=ha
     split at ha
     case isFalse=>cases ha
     next hcond=>
     obtain ⟨rfl,rfl,hsmall⟩:=hcond
     cases ha
     have hnr:=Qy hr
     have hdrop : ∀ m c,upd h n none m = some c → h m = some c:=by
      intro m c hc
      by_cases e : m = n
      · subst e;rw [Zb] at hc;cases hc
      · rwa [Zi _ _ _ _ e] at hc
     have o1:=YX (P:=P) (sz:=ε.size) (src:=r) hh hs (by simp [Q9,hr])
     have o2:=YX (P:=P) (sz:=ε.size) (src:=r) hdr.heap (hdr.rep hs hbs) (by simp [Q9,hr])
     have hlr:=(hh.blk n _ hnr).2
     by_cases hr0 : r = []
     · have hv : ∃ ad,vs = .slice ad 0 0:=by
        rw [hr0] at hs
        cases hs with
        | ac0=>exact ⟨_,rfl⟩
        | ac1 _ _ _ _ h0=>exact absurd rfl h0
       obtain ⟨ad,rfl⟩:=hv
       by_cases hn0 : src = []
       · obtain ⟨ids',r1,r2⟩:=none0 ad (upd h n none) hdrop hn0
         subst hn0;subst hr0
         exact OpOk.made r2 r1 (.ac0 _ _ _) (.ac _ _ _ (.inr rfl))
       · subst hr0
         obtain ⟨val,w',ids',r1,r2,r3⟩:=YE (P:=P) (T:=T) ht hh hn hτ hk he hτ' hk' hbytes (old:=[]) (src:=YG src) (by simpa [Zo] using hsmall) (Z:=fun m=>m = n) (Reads.nil P ad 0) (Reads.nil P ad 0) hrd hrd' (by simp) (ZJ nx src) (YV hlv) (.fully rfl (by simpa [ZfR] using hn0))
         have r2':=fin (old:=[]) rfl (by simp [leaves]) r2
         simp only [List.length_nil,Nat.zero_add,Zo] at r3 ⊢
         exact OpOk.made r2' r1 (acc r3 (by simpa using hn0)) (.ac _ _ _ (.inr rfl))
     · have hs' : RepV (Ze F h ids) ids w (.sl n ε.size 0 r.length) vs:=by
        generalize hq : r.length = q at hs
        cases hs with
        | ac0=>exact absurd (List.length_eq_zero_iff.1 hq) hr0
        | ac1 _ _ _ _ h0 hs=>exact hq ▸ hs
       · cases hs' with
         | sl _ _ _ _ cap ad hl hc=>
          have hpos:=List.length_pos_iff.2 hr0
          obtain ⟨arr0,T0,b1,b2,b3⟩:=hc (by omega)
          have hR:=(hh.blk n _ hnr).1 hr0
          obtain ⟨arrb,Tb,c1,c2,c3,c4⟩:=hR
          rw [b1] at c1
          simp only [Option.some.injEq,Obj.cells.injEq,and_true] at c1
          obtain ⟨rfl,rfl⟩:=c1
          rw [← Zo r] at o1 o2
          obtain ⟨val,w',ids',r1,r2,r3⟩:=YE (P:=P) (T:=T) ht hh hn hτ hk he hτ' hk' hbytes (old:=YG r) (src:=YG src) (by simpa [Zo] using hsmall) (Z:=fun m=>m = n) o1 o2 hrd hrd' (ZJ nx r) (ZJ nx src) (YV hlv)
           (.own n 0 _ arr0 T0 (fun _=>Iff.rfl) hnr (QX hr0) b1 (fun _=>b2) b3 (by simpa using c4))
          have r2':=fin rfl hlr r2
          simp only [Zo] at r3 r1
          exact OpOk.made r2' r1 (acc r3 (by omega)) (.ac _ _ _ (.inr rfl))
   · -- a part of a block that has a name
     next n sz off len=>
     rw [Option.bind_eq_some_iff] at ha
     obtain ⟨r,hr,ha⟩:=ha
     split at ha
     case isFalse=>cases ha
     next hcond=>
     obtain ⟨rfl,hr0,hin,hsmall⟩:=hcond
     cases ha
     have hnr:=Qy hr
     have o1:=YX (P:=P) (sz:=ε.size) (src:=(r.drop off).take len) hh hs (by simp [Q9,hr,hin])
     have o2:=YX (P:=P) (sz:=ε.size) (src:=(r.drop off).take len) hdr.heap (hdr.rep hs hbs) (by simp [Q9,hr,hin])
     have hlr:=(hh.blk n _ hnr).2
     have hlen : (YG ((r.drop off).take len)).length = len:=by rw [Zo];simp;omega
     cases hs with
     | sl _ _ _ _ cap ad hl hc=>
      obtain ⟨arr0,T0,c1,c2,c3,c4⟩:=(hh.blk n _ hnr).1 hr0
      have hroom : Room F ids w h (fun m=>m = n) ε.size (YG ((r.drop off).take len)) (YG src) ad cap:=by
       refine .own n off _ arr0 T0 (fun _=>Iff.rfl) hnr (QX hr0) c1 (fun h0=>?_) ?_ (fun i row j x hi hj=>?_)
       · obtain ⟨_,_,_,h2,_⟩:=hc h0;exact h2
       · by_cases h0 : cap = 0
         · subst h0
           have : (off + 0) * ε.size ≤ (YG r).length * ε.size:=Nat.mul_le_mul_right _ (by rw [Zo];omega)
           omega
         · obtain ⟨arr1,T1,b1,_,b3⟩:=hc h0
           rw [c1] at b1
           simp only [Option.some.injEq,Obj.cells.injEq,and_true] at b1
           rw [b1.1];exact b3
       · rw [Zcn] at hi
         have hlt : i < len:=by have:=(List.getElem?_eq_some_iff.1 hi).1;simp at this;omega
         rw [List.getElem?_take_of_lt hlt,List.getElem?_drop] at hi
         obtain ⟨v,hv,hrep⟩:=c4 (off + i) row j x hi hj
         exact ⟨v,by rw [← hv];congr 1;rw [Nat.add_mul];omega,hrep⟩
      generalize hold : YG ((r.drop off).take len) = old at o1 o2 hlen hroom
      subst hlen
      obtain ⟨val,w',ids',r1,r2,r3⟩:=YE (P:=P) (T:=T) ht hh hn hτ hk he hτ' hk' hbytes (old:=old) (src:=YG src) (by simpa [Zo] using hsmall) (Z:=fun m=>m = n) o1 o2 hrd hrd' (hold ▸ ZJ nx _) (ZJ nx src) (YV hlv) hroom
      have r2':=fin (old:=(r.drop off).take old.length) rfl (Zan hlr _ _) (by rw [hold];exact r2)
      simp only [Zo] at r3
      exact OpOk.made r2' r1 (r3 _) (.sl _ _ _ _ (.inr rfl))
   · cases ha
 · rw [Option.bind_eq_some_iff] at ha
   obtain ⟨src,hsrc,ha⟩:=ha
   split at ha
   case isFalse=>cases ha
   next hall=>
   rw [List.all_eq_true] at hall
   have hw : ∀ row ∈ src,row.length = ε.size:=fun row hr=>by have:=hall row hr;simp only [Bool.and_eq_true,decide_eq_true_eq] at this;exact this.1
   have hleaf : ∀ row ∈ src,row.all V.leaf = true:=fun row hr=>by have:=hall row hr;rw [Bool.and_eq_true] at this;exact this.2
   obtain ⟨hrd,hbsrc⟩:=Y8 (P:=P) hh hx hsrc hw
   obtain ⟨hrd',_⟩:=Y8 (P:=P) hdr.heap (hdr.rep hx hbx) hsrc hw
   have noZ : (fun n=>if (fun _ : Nat=>False) n then none else h n) = h:=by funext n;simp
   split at ha
   · cases hs
     split at ha
     case isFalse=>cases ha
     next hsmall=>
     cases ha
     obtain ⟨val,w',ids',r1,r2,r3⟩:=YE (P:=P) (T:=T) ht hh hn hτ hk he hτ' hk' hbytes (old:=[]) (src:=src) (by simpa using hsmall.1) (Z:=fun _=>False) (Reads.nil P none 0) (Reads.nil P none 0) hrd hrd' (by simp) hbsrc hleaf (.fully rfl hsmall.2)
     rw [noZ,List.nil_append] at r2
     simp only [List.length_nil,Nat.zero_add] at r3
     exact OpOk.made r2 r1 (r3 _) (.sl _ _ _ _ (.inr rfl))
   · next n sz off len=>
     rw [Option.bind_eq_some_iff] at ha
     obtain ⟨r,hr,ha⟩:=ha
     split at ha
     case isFalse=>cases ha
     next hcond=>
     obtain ⟨rfl,hin,hsmall⟩:=hcond
     cases ha
     have hnr:=ZdE hr
     have hb:=hh.blk n _ hnr
     have hcut : ∀ row ∈ (r.drop off).take len,row.length = ε.size:=fun row hrow=>by
      obtain ⟨_,_,_,_,b3,_⟩:=hb
      exact b3 row (List.mem_of_mem_drop (List.mem_of_mem_take hrow))
     obtain ⟨o1,hbo⟩:=Y8 (P:=P) hh hs (src:=(r.drop off).take len) (by simp [YO,hr,hin]) hcut
     obtain ⟨o2,_⟩:=Y8 (P:=P) hdr.heap (hdr.rep hs hbs) (src:=(r.drop off).take len) (by simp [YO,hr,hin]) hcut
     have hlen : ((r.drop off).take len).length = len:=by simp;omega
     cases hs with
     | sl _ _ _ _ cap ad hl hc=>
      obtain ⟨arr0,T0,c1,c2,c3,c4⟩:=hb
      have hroom : Room F ids w h (fun m=>m = n) ε.size ((r.drop off).take len) src ad cap:=by
       refine .own n off _ arr0 T0 (fun _=>Iff.rfl) hnr rfl c1 (fun h0=>?_) ?_ (fun i row j x hi hj=>?_)
       · obtain ⟨_,_,_,h2,_⟩:=hc h0;exact h2
       · by_cases h0 : cap = 0
         · subst h0
           have : (off + 0) * ε.size ≤ r.length * ε.size:=Nat.mul_le_mul_right _ (by omega)
           omega
         · obtain ⟨arr1,T1,b1,_,b3⟩:=hc h0
           rw [c1] at b1
           simp only [Option.some.injEq,Obj.cells.injEq,and_true] at b1
           rw [b1.1];exact b3
       · have hlt : i < len:=by have:=(List.getElem?_eq_some_iff.1 hi).1;omega
         rw [List.getElem?_take_of_lt hlt,List.getElem?_drop] at hi
         obtain ⟨v,hv,hrep⟩:=c4 (off + i) row j x hi hj
         exact ⟨v,by rw [← hv];congr 1;rw [Nat.add_mul];omega,hrep⟩
      generalize hold : (r.drop off).take len = old at o1 o2 hlen hroom hbo
      subst hlen
      obtain ⟨val,w',ids',r1,r2,r3⟩:=YE (P:=P) (T:=T) ht hh hn hτ hk he hτ' hk' hbytes (old:=old) (src:=src) hsmall (Z:=fun m=>m = n) o1 o2 hrd hrd' hbo hbsrc hleaf hroom
      exact OpOk.made r2 r1 (r3 _) (.sl _ _ _ _ (.inr rfl))
   · cases ha
end
section
variable {P : Program} {tab : Tab}
theorem Q5 (ht : Zk P tab) {t : TypeId} {ε : Ty} (h : Zy tab t = some ε) : ∃ e,(∀ w,(underlying t).run P w = .ok (.slice e) w) ∧ TyOk P e ε:=by
 obtain ⟨τ,e,hτ,hk,he⟩:=Z0 h
 exact ⟨e,ZK ht hτ hk,ht e ε he⟩
theorem Zjx {α β γ : Type} {R : β → γ → Prop} (f : α → β) (g : α → γ) (h : ∀ a,R (f a) (g a)) (l : List α) : All2 R (l.map f) (l.map g):=by
 induction l with
 | nil=>exact .nil
 | cons a l ih=>exact .cons (h a) ih
theorem Zed {A : Nat → Prop} {ids : Nat → Nat × Nat} {w : World} (l : List Value) (arr : Array Value) (h : arr.toList = l) : Stands A ids w (l.map .c) arr:=by
 subst h
 refine ⟨by simp,fun i x v hx hv=>?_⟩
 rw [List.getElem?_map,Array.getElem?_toList,hv] at hx
 simp at hx;subst hx;exact .c v
theorem ZiF (fields : List Field) (w : World) (h : ∀ f ∈ fields,∃ n,∀ w,(sizeOf f.type).run P w = .ok n w) :
 ∃ l : List (Nat × Nat),(fields.mapM (fun (f : Field)=>(do pure (f.offset,← sizeOf f.type) : Sem (Nat × Nat)))).run P w = .ok l w ∧ l.length = fields.length ∧
  ∀ (i : Nat) (f : Field) (n : Nat),fields[i]? = some f → (∀ w,(sizeOf f.type).run P w = .ok n w) → l[i]? = some (f.offset,n):=by
 induction fields with
 | nil=>exact ⟨[],rfl,rfl,by simp⟩
 | cons f fs ih=>
  obtain ⟨l,h1,h2,h3⟩:=ih (fun f hf=>h f (by simp [hf]))
  obtain ⟨n,hn⟩:=h f (by simp)
  refine ⟨(f.offset,n) :: l,?_,by simp [h2],fun i g m hi hm=>?_⟩
  · simp only [List.mapM_cons,Sem.run_bind,hn,Result.andThen_ok,Sem.run_pure,h1]
  · cases i with
    | zero=>
     simp at hi;subst hi
     have:=(hn w).symm.trans (hm w)
     simp at this;simp [this]
    | succ i=>simp at hi ⊢;exact h3 i g m hi hm
theorem Ziq (ht : Zk P tab) {A : Nat → Prop} {ids : Nat → Nat × Nat} {w : World} {t : TypeId} {parts : List (Nat × V)} {vparts : Array (Nat × Value)} {v : V}
 (hp : All2 (fun p q=>p.1 = q.1 ∧ RepV A ids w p.2 q.2) parts vparts.toList) (h : ZgC tab t parts = some v) {nx : Nm} (hb : ∀ p ∈ parts,p.2.Below nx) :
 ∃ val,(Instr.build t vparts).run P w = .ok val w ∧ RepV A ids w v val ∧ v.Below nx:=by
 unfold ZgC at h
 rw [Option.bind_eq_some_iff] at h
 obtain ⟨τ,hτ,h⟩:=h
 obtain ⟨z,hz,hzc⟩:=(ht t τ hτ).zero w
 obtain ⟨d,h1,_,hf⟩:=(ht t τ hτ).desc
 have hzb : ∀ x ∈ τ.zero.map V.c,x.Below nx:=by simp only [List.mem_map];rintro x ⟨v,_,rfl⟩;exact .c v
 generalize τ.agg = g at hf
 generalize hkk : τ.kind = k at hf h
 cases hf <;> simp only [reduceCtorEq] at h
 case struct fields l hl hu=>
  split at h
  case isFalse=>cases h
  next hall=>
  rw [Option.map_eq_some_iff] at h
  obtain ⟨cs,hcs,rfl⟩:=h
  rw [List.all_eq_true] at hall
  obtain ⟨pl,p1,p2,p3⟩:=ZiF (P:=P) fields.toList w (fun f hf=>by
   have:=hall (f.offset,f.type) (by rw [← hl];exact List.mem_map_of_mem hf)
   obtain ⟨τ',hτ'⟩:=Option.isSome_iff_exists.1 this
   exact ⟨τ'.size,(ht _ _ hτ').sizeOf⟩)
  have hplace : (fun i=>(pl.toArray)[i]?) = (fun (i : Nat)=>(l[i]?).bind fun p=>(tab p.2).map fun τ'=>(p.1,τ'.size)):=by
   funext i
   rw [← hl,List.getElem?_map]
   cases hi : fields.toList[i]? with
   | none=>
    have : pl[i]? = none:=by rw [List.getElem?_eq_none_iff] at hi ⊢;omega
    simp [this]
   | some f=>
    have:=hall (f.offset,f.type) (by rw [← hl];exact List.mem_map_of_mem (List.mem_of_getElem? hi))
    obtain ⟨τ',hτ'⟩:=Option.isSome_iff_exists.1 this
    simp only at hτ'
    simp [hτ',p3 i f τ'.size hi (ht _ _ hτ').sizeOf]
  rw [← hplace] at hcs
  obtain ⟨arr',a1,a2⟩:=ZcF parts vparts.toList _ cs z.cells hp (Zed τ.zero z.cells (by rw [hzc])) hcs
  refine ⟨.agg arr',?_,.agg _ _ a2.1 a2.2,.agg _ (ZbJ parts _ cs hb hzb hcs)⟩
  simp only [Instr.build,Sem.run_bind,hz,Result.andThen_ok,h1,Array.mapM_eq_mapM_toList,Sem.run_map,p1,a1,Sem.run_pure]
 case array n e hu=>
  rw [Option.bind_eq_some_iff] at h
  obtain ⟨ε,hε,h⟩:=h
  rw [Option.map_eq_some_iff] at h
  obtain ⟨cs,hcs,rfl⟩:=h
  obtain ⟨arr',a1,a2⟩:=ZcF parts vparts.toList _ cs z.cells hp (Zed τ.zero z.cells (by rw [hzc])) hcs
  refine ⟨.agg arr',?_,.agg _ _ a2.1 a2.2,.agg _ (ZbJ parts _ cs hb hzb hcs)⟩
  simp only [Instr.build,Sem.run_bind,hz,Result.andThen_ok,h1,(ht e ε hε).sizeOf,a1,Sem.run_pure]
theorem Zbz (z : List V) : ∀ (n k : Nat),(Z3 n z)[k]? = if k < n * z.length then z[k % z.length]? else none:=by
 intro n
 induction n with
 | zero=>intro k;simp [Z3]
 | succ n ih=>
  intro k
  rw [Z3]
  by_cases h : k < z.length
  · rw [List.getElem?_append_left h,if_pos (by rw [Nat.add_mul];omega),Nat.mod_eq_of_lt h]
  · rw [List.getElem?_append_right (by omega),ih]
    by_cases h2 : k < (n + 1) * z.length
    · rw [if_pos h2,if_pos (by rw [Nat.add_mul] at h2;omega),← Nat.mod_eq_sub_mod (by omega)]
    · rw [if_neg h2,if_neg (by rw [Nat.add_mul] at h2;omega)]
theorem Zai (z : List V) (n : Nat) : (Z3 n z).length = n * z.length:=by
 induction n with
 | zero=>simp [Z3]
 | succ n ih=>simp [Z3,ih,Nat.add_mul,Nat.add_comm]
theorem QU (sz : Nat) : ∀ (n : Nat) (l : List V),(ZaW sz n l).length = n:=by
 intro n;induction n with
 | zero=>intro l;rfl
 | succ n ih=>intro l;simp [ZaW,ih]
theorem ZlC (sz : Nat) : ∀ (n : Nat) (l : List V) (i : Nat) (row : List V),(ZaW sz n l)[i]? = some row → row = (l.drop (i * sz)).take sz:=by
 intro n;induction n with
 | zero=>intro l i row h;simp [ZaW] at h
 | succ n ih=>
  intro l i row h
  cases i with
  | zero=>simp [ZaW] at h;simp [h]
  | succ i=>
   simp only [ZaW,List.getElem?_cons_succ] at h
   rw [ih _ i row h,List.drop_drop,Nat.add_mul,Nat.one_mul,Nat.add_comm]
theorem ZgU {place : Nat → Option (Nat × Nat)} : ∀ (parts : List (Nat × V)) (cells cs : List V),ZbV place cells parts = some cs → cs.length = cells.length:=by
 intro parts;induction parts with
 | nil=>intro cells cs h;simp only [ZbV,Option.some.injEq] at h;rw [h]
 | cons p parts ih=>
  intro cells cs h
  obtain ⟨i,x⟩:=p
  simp only [ZbV,Option.bind_eq_some_iff] at h
  obtain ⟨q,_,xs,_,h⟩:=h
  split at h
  · next hc=>rw [ih _ _ h,Q7 _ _ _ hc.2]
  · cases h
theorem Chg.alloc0 {F : Nat → Prop} {ids : Nat → Nat × Nat} {w : World} {h : Hp} {nx : Nm} (hh : RepH F ids w h nx) (o : Obj) (ho : ZtK o:=by intro _ _ _ h;cases h;rfl) : Chg F ids w h nx ids (w.alloc o) h nx:=by
 have hg:=Goes.alloc (Ze F h ids) w o ho
 refine ⟨⟨hh.lt,fun n b hb=>(hh.blk n b hb).mono hg (fun _ _ x=>x) (fun _ _=>rfl) (hh.below n b hb) (fun hr=>?_),hh.below,hh.inj,hh.out,fun c x=>Nat.lt_of_lt_of_le (hh.fsz c x) hg.size⟩,Goes.alloc _ _ _ ho,fun _ _ x=>x,fun _ _=>rfl,Nm.le_refl _⟩
 have:=(hh.blk n b hb).lt hr
 rw [YW,Array.getElem?_push,if_neg (by omega)]
theorem ZiK : ∀ {rows : List (List V)} {ds : List (List D)},ZrH rows = some ds → ds.length = rows.length ∧ ∀ (i : Nat) (row : List V) (d : List D),rows[i]? = some row → ds[i]? = some d → ZoN row = some d
 | [],ds,h=>by simp only [ZrH,Option.some.injEq] at h;subst h;exact ⟨rfl,by simp⟩
 | r :: rs,ds,h=>by
  simp only [ZrH,Option.bind_eq_some_iff,Option.map_eq_some_iff] at h
  obtain ⟨d,hd,ds',hds,rfl⟩:=h
  obtain ⟨h1,h2⟩:=ZiK hds
  refine ⟨by simp [h1],fun i row e hi he=>?_⟩
  cases i with
  | zero=>simp at hi he;subst hi;subst he;exact hd
  | succ i=>exact h2 i row e (by simpa using hi) (by simpa using he)
theorem Zde (ht : Zk P tab) {F : Nat → Prop} {ids : Nat → Nat × Nat} {w : World} {h h' : Hp} {nx : Nm} {nm : Nat} (hh : RepH F ids w h nx) (hn : ¬ nx nm) {t : TypeId} {len : Nat} {parts : List (Nat × V)} {vparts : Array (Nat × Value)} {v : V}
 (hp : All2 (fun p q=>p.1 = q.1 ∧ RepV (Ze F h ids) ids w p.2 q.2) parts vparts.toList) (hb : ∀ p ∈ parts,p.2.Below nx) (hs : Yh tab nm h t len parts = some (v,h')) :
 OpOk F ids w h nx ((do pure (Next.value (← Instr.buildSlice t len vparts)) : Sem Next).run P w) v h' (nx.add nm):=by
 unfold Yh at hs
 rw [Option.bind_eq_some_iff] at hs
 obtain ⟨ε,hε,hs⟩:=hs
 split at hs
 case isFalse=>cases hs
 next hle=>
 rw [Option.bind_eq_some_iff] at hs
 obtain ⟨cs,hcs,hs⟩:=hs
 obtain ⟨e,h1,hte⟩:=Q5 ht hε
 obtain ⟨z,hz,hzc⟩:=hte.zero w
 have hzl:=hte.zlen
 let zc : Array Value:=if len * ε.size = 0 then #[] else z.cells
 have hst : Stands (Ze F h ids) ids w (Z3 len (ε.zero.map V.c)) ((Array.range (len * ε.size)).map (zc[· % zc.size]!)):=by
  refine ⟨by simp [Zai,hzl],fun i x u hx hu=>?_⟩
  rw [Zbz] at hx
  split at hx
  · next hlt=>
    simp only [List.length_map,hzl] at hlt hx
    have hne : len * ε.size ≠ 0:=by omega
    have hsz : 0 < ε.size:=Nat.pos_of_ne_zero fun e=>by simp [e] at hne
    have hzcs : zc = ε.zero.toArray:=by simp only [zc];rw [if_neg hne,hzc]
    simp only [Array.getElem?_map,Array.getElem?_range,hlt,if_true,Option.map_some,Option.some.injEq,hzcs] at hu
    have hm : i % ε.size < ε.zero.length:=by rw [hzl];exact Nat.mod_lt _ hsz
    rw [List.getElem?_map,List.getElem?_eq_getElem hm] at hx
    simp at hx
    subst hx
    simp only [List.size_toArray,hzl] at hu
    rw [getElem!_pos _ _ (by simpa using hm)] at hu
    simp at hu
    subst hu
    exact .c _
  · cases hx
 obtain ⟨arr',a1,a2⟩:=ZcF parts vparts.toList _ cs _ hp hst hcs
 have hcl : cs.length = len * ε.size:=by rw [ZgU _ _ _ hcs,Zai];simp [hzl]
 have hbz : ∀ x ∈ Z3 len (ε.zero.map V.c),x.Below nx:=by
  intro x hx
  obtain ⟨k,hk⟩:=List.getElem?_of_mem hx
  rw [Zbz] at hk
  split at hk
  · have:=List.mem_of_getElem? hk
    simp at this
    obtain ⟨u,_,rfl⟩:=this
    exact .c u
  · cases hk
 have hbc:=ZbJ parts _ cs hb hbz hcs
 have hrow : ∀ (i : Nat) (row : List V),(ZaW ε.size len cs)[i]? = some row → row.length = ε.size ∧ ∀ (j : Nat) (x : V),row[j]? = some x → cs[i * ε.size + j]? = some x:=by
  intro i row hi
  have hil:=(List.getElem?_eq_some_iff.1 hi).1
  rw [QU] at hil
  obtain rfl:=ZlC _ _ _ _ _ hi
  have : (i + 1) * ε.size ≤ len * ε.size:=Nat.mul_le_mul_right _ hil
  rw [Nat.add_mul] at this
  refine ⟨by simp;omega,fun j x hj=>?_⟩
  have hjl:=(List.getElem?_eq_some_iff.1 hj).1
  rw [List.getElem?_take_of_lt (by simp at hjl;omega),List.getElem?_drop] at hj
  exact hj
 have hrun : ((do pure (Next.value (← Instr.buildSlice t len vparts)) : Sem Next).run P w) = .ok (.value (.slice (some ⟨w.heap.size,0,none⟩) len len)) (w.alloc (.cells arr' e)):=by
  have hle' : ¬ len * ε.size > 2 ^ 24:=by omega
  by_cases h0 : len * ε.size = 0
  · have hz0 : zc = #[]:=if_pos h0
    rw [hz0] at a1
    simp only [Instr.buildSlice,Sem.run_bind,h1,Result.andThen_ok,hte.sizeOf,if_neg hle',if_pos h0,Sem.run_pure,a1,newRow,run_newObj]
    rfl
  · have hz0 : zc = z.cells:=if_neg h0
    rw [hz0] at a1
    simp only [Instr.buildSlice,Sem.run_bind,h1,Result.andThen_ok,hte.sizeOf,if_neg hle',if_neg h0,hz,Sem.run_pure,a1,newRow,run_newObj]
    rfl
 have hcell : ∀ (i : Nat) (row : List V) (j : Nat) (x : V),(ZaW ε.size len cs)[i]? = some row → row[j]? = some x → ∃ v,arr'[i * ε.size + j]? = some v ∧ RepV (Ze F h ids) ids w x v ∧ x.Below nx:=by
  intro i row j x hi hj
  have hk:=(hrow i row hi).2 j x hj
  have hlt:=(List.getElem?_eq_some_iff.1 hk).1
  exact ⟨arr'[i * ε.size + j]'(by rw [a2.1];exact hlt),by simp [a2.1,hlt],a2.2 _ x _ hk (by simp [a2.1,hlt]),hbc x (List.mem_of_getElem? hk)⟩
 split at hs
 · next ds hds=>
   simp only [Option.some.injEq,Prod.mk.injEq] at hs
   obtain ⟨rfl,rfl⟩:=hs
   obtain ⟨d1,d2⟩:=ZiK hds
   rw [QU] at d1
   have hc:=Chg.alloc0 hh (.cells arr' e)
   refine OpOk.made (hc.trans (Chg.skip hc.heap (Nm.le_add nx nm))) hrun ?_ (.lst _ _ _)
   refine .lst _ _ _ _ ?_ (fun _=>⟨some ⟨w.heap.size,0,none⟩,by rw [d1]⟩)
   by_cases h0 : len = 0
   · subst h0
     have : ds = []:=List.length_eq_zero_iff.1 d1
     subst this
     exact .emp _ _ _
   have hrowOf : ∀ (i : Nat) (d : List D),ds[i]? = some d → ∃ row,(ZaW ε.size len cs)[i]? = some row ∧ ZoN row = some d:=by
    intro i d hi
    have hil : i < (ZaW ε.size len cs).length:=by rw [QU,← d1];exact (List.getElem?_eq_some_iff.1 hi).1
    exact ⟨(ZaW ε.size len cs)[i],by simp [hil],d2 i _ d (by simp [hil]) hi⟩
   have hD : ∀ (i : Nat) (d : List D) (j : Nat) (x : D),ds[i]? = some d → d[j]? = some x → ∃ v,arr'[i * ε.size + j]? = some v ∧ RepD (Ze F h ids) (w.alloc (.cells arr' e)) x v:=by
    intro i d j x hi hj
    obtain ⟨row,hrw,htd⟩:=hrowOf i d hi
    obtain ⟨t1,_,t3⟩:=Zdx htd
    have hjl : j < row.length:=by rw [← t1];exact (List.getElem?_eq_some_iff.1 hj).1
    obtain ⟨v,hv,hrep,hb⟩:=hcell i row j row[j] hrw (by simp [hjl])
    exact ⟨v,hv,ZmQ (t3 j _ x (by simp [hjl]) hj) (hc.rep hrep hb)⟩
   have hbase : RepD (Ze F h ids) (w.alloc (.cells arr' e)) (.lst ε.size ds) (.slice (some ⟨w.heap.size,0,none⟩) ds.length len):=by
    refine .lst ε.size ds w.heap.size 0 len (fun i j=>(arr'[i * ε.size + j]?).getD default) (by omega) (by simp) (fun x=>?_) (fun d hd=>?_) (fun i d j x hi hj=>?_) (fun i d j x hi hj=>?_)
    · rcases x with x | x
      · exact absurd (hh.fsz _ x) (Nat.lt_irrefl _)
      · exact absurd (hh.liveLt x) (Nat.lt_irrefl _)
    · obtain ⟨i,hi⟩:=List.getElem?_of_mem hd
      obtain ⟨row,hrw,htd⟩:=hrowOf i d hi
      rw [(Zdx htd).1];exact (hrow i row hrw).1
    · obtain ⟨v,hv,_⟩:=hD i d j x hi hj
      rw [ZbT (Yx _ _),Nat.zero_add,hv];rfl
    · obtain ⟨v,hv,hr⟩:=hD i d j x hi hj
      rw [hv];exact hr
   rwa [d1] at hbase
 · simp only [Option.some.injEq,Prod.mk.injEq] at hs
   obtain ⟨rfl,rfl⟩:=hs
   have hc:=Chg.newRows hh hn e ε.size (ZaW ε.size len cs) arr' (by rw [QU,a2.1,hcl];exact Nat.le_refl _)
    (fun row hr=>by obtain ⟨i,hi⟩:=List.getElem?_of_mem hr;exact (hrow i row hi).1)
    (fun row hr x hx=>by
     obtain ⟨i,hi⟩:=List.getElem?_of_mem hr
     obtain ⟨j,hj⟩:=List.getElem?_of_mem hx
     obtain ⟨_,_,_,hb⟩:=hcell i row j x hi hj
     exact hb)
    (fun i row j x hi hj=>by obtain ⟨v,hv,hr,_⟩:=hcell i row j x hi hj;exact ⟨v,hv,hr⟩)
   refine OpOk.made hc hrun ?_ (.sl _ _ _ _ (.inr rfl))
   refine .sl nm ε.size 0 len len _ (Nat.le_refl _) fun _=>⟨arr',e,?_,?_,?_⟩
   · rw [Zb];exact Yx _ _
   · rw [Zb];simp
   · rw [Zb,a2.1,hcl];simp
end
set_option linter.unusedVariables false
set_option linter.unusedSimpArgs false
section
variable {P : Program} {tab : Tab}
theorem Zf0 (tab : Tab) (nm : Nat) (e : Operand → V) (h : Hp) (x : Operand) : sop tab nm e h (.move x) = some (e x,h):=rfl
theorem ZcP (tab : Tab) (nm : Nat) (e : Operand → V) (h : Hp) (x : Operand) : sop tab nm e h (.assign x) = some (e x,h):=rfl
theorem ZbZ (tab : Tab) (nm : Nat) (e : Operand → V) (h : Hp) (t : TypeId) : sop tab nm e h (.alloc t) = (tab t).map fun τ=>(.p nm τ.size 0 0,upd h nm (some (.rows τ.size [τ.zero.map .c]))):=rfl
theorem ZcO (tab : Tab) (nm : Nat) (e : Operand → V) (h : Hp) (t : TypeId) (x : Operand) : sop tab nm e h (.box t x) = (e x).cells.map fun xs=>(.p nm xs.length 0 0,upd h nm (some (.rows xs.length [xs]))):=rfl
theorem Zb1 (tab : Tab) (nm : Nat) (e : Operand → V) (h : Hp) (t : TypeId) (parts : Array (Nat × Operand)) : sop tab nm e h (.build t parts) = (ZgC tab t (parts.toList.map fun p=>(p.1,e p.2))).map fun v=>(v,h):=rfl
theorem ZW (tab : Tab) (nm : Nat) (e : Operand → V) (h : Hp) (t : TypeId) (len : Nat) (parts : Array (Nat × Operand)) : sop tab nm e h (.buildSlice t len parts) = Yh tab nm h t len (parts.toList.map fun p=>(p.1,e p.2)):=rfl
theorem Zbh (tab : Tab) (nm : Nat) (e : Operand → V) (h : Hp) (t : TypeId) (a : Operand) : sop tab nm e h (.load t a) = (ZdL tab h t (e a)).map fun v=>(v,h):=rfl
theorem Zae (tab : Tab) (nm : Nat) (e : Operand → V) (h : Hp) (t : TypeId) (a x : Operand) : sop tab nm e h (.store t a x) = (ZaN tab h t (e a) (e x)).map fun h'=>(.un,h'):=rfl
theorem Qg (tab : Tab) (nm : Nat) (e : Operand → V) (h : Hp) (x : Operand) : sop tab nm e h (.nilCheck x) = Zad (e x) h:=rfl
theorem Zdk (tab : Tab) (nm : Nat) (e : Operand → V) (h : Hp) (op : UnOp) (t : TypeId) (x : Operand) : sop tab nm e h (.unOp op t x) = (unV op (e x)).map fun v=>(v,h):=rfl
theorem QG (tab : Tab) (nm : Nat) (e : Operand → V) (h : Hp) (src dst : TypeId) (x : Operand) : sop tab nm e h (.convert src dst x) = if (tab src).isSome = true then (ZhY tab dst (e x)).map fun v=>(v,h) else none:=rfl
theorem Z2 (tab : Tab) (nm : Nat) (e : Operand → V) (h : Hp) (t : TypeId) (x : Operand) : sop tab nm e h (.makeInterface t x) = Zfh tab t (e x) h:=rfl
theorem ZaT (tab : Tab) (nm : Nat) (e : Operand → V) (h : Hp) (fn : Fn) (first cap : Array Operand) : sop tab nm e h (.makeFunc fn first cap) = some (.fn fn (first.toList.map e) (cap.toList.map e),h):=rfl
theorem Zcp (tab : Tab) (nm : Nat) (e : Operand → V) (h : Hp) (t : TypeId) (x : Operand) (lo hi mx : Option Operand) : sop tab nm e h (.slice t x lo hi mx) = (Zfr tab t (e x) (lo.map e) (hi.map e) (mx.map e)).map fun v=>(v,h):=rfl
theorem Qu (tab : Tab) (nm : Nat) (e : Operand → V) (h : Hp) (s : TypeId) (x : Operand) (f : Nat) : sop tab nm e h (.fieldAddr s x f) = (Qx tab s (e x) f).map fun v=>(v,h):=rfl
theorem Zce (tab : Tab) (nm : Nat) (e : Operand → V) (h : Hp) (s : TypeId) (x : Operand) (f : Nat) : sop tab nm e h (.field s x f) = (Zal tab s (e x) f).map fun v=>(v,h):=rfl
theorem Qs (tab : Tab) (nm : Nat) (e : Operand → V) (h : Hp) (t : TypeId) (x i : Operand) : sop tab nm e h (.indexAddr t x i) = (Qw tab t (e x) (e i)).map fun v=>(v,h):=rfl
theorem Zch (tab : Tab) (nm : Nat) (e : Operand → V) (h : Hp) (t : TypeId) (x i : Operand) : sop tab nm e h (.index t x i) = (Ze7 tab t (e x) (e i)).map fun v=>(v,h):=rfl
theorem QH (tab : Tab) (nm : Nat) (e : Operand → V) (h : Hp) (x : Operand) (i : Nat) : sop tab nm e h (.extract x i) = Zbi (e x) i h:=rfl
theorem ZaZ (tab : Tab) (nm : Nat) (e : Operand → V) (h : Hp) (op : BinOp) (t : TypeId) (x y : Operand) (t' : TypeId) : sop tab nm e h (.binOp op t x y t') = Zbv tab op t y (e x) (e y) h:=rfl
theorem Qt (tab : Tab) (nm : Nat) (e : Operand → V) (h : Hp) (c : Call) : sop tab nm e h (.call c) = Zdg tab nm e h c:=rfl
theorem Yr {F : Nat → Prop} {ids : Nat → Nat × Nat} {w : World} {M : Nm} {t : Nat → V} {h : Hp} {n : Nat} {a : Act} (hr : RepT F ids w M t h n a) (x : Operand) : RepV (Ze F h ids) ids w (evS t x) (a.eval x):=by
 cases x with
 | tmp i=>exact hr.tmps i
 | const v=>exact ZpR _ _ _ v
 | global g=>exact .un _
 | func f=>exact .fn _ [] [] #[] #[] rfl rfl (by simp) (by simp)
theorem Yg {m : Nm} {t : Nat → V} (h : ∀ i,(t i).Below m) (x : Operand) : (evS t x).Below m:=by
 cases x with
 | tmp i=>exact h i
 | const v=>exact Zi6 m v
 | global g=>exact .un
 | func f=>exact .fn _ _ _ (by simp) (by simp)
theorem Zs0 (ht : Zk P tab) {F : Nat → Prop} {ids : Nat → Nat × Nat} {w : World} {h h' : Hp} {nx : Nm} {nm : Nat} (hh : RepH F ids w h nx) (hn : ¬ nx nm) (e : Operand → V) (ρ : Operand → Value)
 (he : ∀ x,RepV (Ze F h ids) ids w (e x) (ρ x)) (hb : ∀ x,(e x).Below nx) (hρ : ∀ v,ρ (.const v) = v) (o : Oper) (x : Operand) (ho : o.op = .move x) {v : V} (hs : sop tab nm e h (.move x) = some (v,h')) :
 OpOk F ids w h nx ((execOp ρ o).run P w) v h' (nx.add nm):=by
 have hnx : nx.le (nx.add nm):=Nm.le_add _ _
 rw [Zf0] at hs
 simp only [Option.some.injEq,Prod.mk.injEq] at hs
 obtain ⟨rfl,rfl⟩:=hs
 exact OpOk.still hh hnx (by simp only [execOp,ho];rfl) (he x) (hb x)
theorem Zn4 (ht : Zk P tab) {F : Nat → Prop} {ids : Nat → Nat × Nat} {w : World} {h h' : Hp} {nx : Nm} {nm : Nat} (hh : RepH F ids w h nx) (hn : ¬ nx nm) (e : Operand → V) (ρ : Operand → Value)
 (he : ∀ x,RepV (Ze F h ids) ids w (e x) (ρ x)) (hb : ∀ x,(e x).Below nx) (hρ : ∀ v,ρ (.const v) = v) (o : Oper) (x : Operand) (ho : o.op = .assign x) {v : V} (hs : sop tab nm e h (.assign x) = some (v,h')) :
 OpOk F ids w h nx ((execOp ρ o).run P w) v h' (nx.add nm):=by
 have hnx : nx.le (nx.add nm):=Nm.le_add _ _
 rw [ZcP] at hs
 simp only [Option.some.injEq,Prod.mk.injEq] at hs
 obtain ⟨rfl,rfl⟩:=hs
 exact OpOk.still hh hnx (by simp only [execOp,ho];rfl) (he x) (hb x)
theorem ZqD (ht : Zk P tab) {F : Nat → Prop} {ids : Nat → Nat × Nat} {w : World} {h h' : Hp} {nx : Nm} {nm : Nat} (hh : RepH F ids w h nx) (hn : ¬ nx nm) (e : Operand → V) (ρ : Operand → Value)
 (he : ∀ x,RepV (Ze F h ids) ids w (e x) (ρ x)) (hb : ∀ x,(e x).Below nx) (hρ : ∀ v,ρ (.const v) = v) (o : Oper) (t : TypeId) (ho : o.op = .alloc t) {v : V} (hs : sop tab nm e h (.alloc t) = some (v,h')) :
 OpOk F ids w h nx ((execOp ρ o).run P w) v h' (nx.add nm):=by
 have hnx : nx.le (nx.add nm):=Nm.le_add _ _
 rw [ZbZ,Option.map_eq_some_iff] at hs
 obtain ⟨τ,hτ,he'⟩:=hs
 simp only [Prod.mk.injEq] at he'
 obtain ⟨rfl,rfl⟩:=he'
 simp only [execOp,ho]
 exact Zh8 ht hh hn hτ
theorem Zuv (ht : Zk P tab) {F : Nat → Prop} {ids : Nat → Nat × Nat} {w : World} {h h' : Hp} {nx : Nm} {nm : Nat} (hh : RepH F ids w h nx) (hn : ¬ nx nm) (e : Operand → V) (ρ : Operand → Value)
 (he : ∀ x,RepV (Ze F h ids) ids w (e x) (ρ x)) (hb : ∀ x,(e x).Below nx) (hρ : ∀ v,ρ (.const v) = v) (o : Oper) (t : TypeId) (x : Operand) (ho : o.op = .box t x) {v : V} (hs : sop tab nm e h (.box t x) = some (v,h')) :
 OpOk F ids w h nx ((execOp ρ o).run P w) v h' (nx.add nm):=by
 have hnx : nx.le (nx.add nm):=Nm.le_add _ _
 rw [ZcO,Option.map_eq_some_iff] at hs
 obtain ⟨xs,hxs,he'⟩:=hs
 simp only [Prod.mk.injEq] at he'
 obtain ⟨rfl,rfl⟩:=he'
 simp only [execOp,ho]
 exact Znj hh hn (he x) (hb x) hxs
theorem Zrv (ht : Zk P tab) {F : Nat → Prop} {ids : Nat → Nat × Nat} {w : World} {h h' : Hp} {nx : Nm} {nm : Nat} (hh : RepH F ids w h nx) (hn : ¬ nx nm) (e : Operand → V) (ρ : Operand → Value)
 (he : ∀ x,RepV (Ze F h ids) ids w (e x) (ρ x)) (hb : ∀ x,(e x).Below nx) (hρ : ∀ v,ρ (.const v) = v) (o : Oper) (t : TypeId) (parts : Array (Nat × Operand)) (ho : o.op = .build t parts) {v : V} (hs : sop tab nm e h (.build t parts) = some (v,h')) :
 OpOk F ids w h nx ((execOp ρ o).run P w) v h' (nx.add nm):=by
 have hnx : nx.le (nx.add nm):=Nm.le_add _ _
 rw [Zb1,Option.map_eq_some_iff] at hs
 obtain ⟨u,hu,he'⟩:=hs
 simp only [Prod.mk.injEq] at he'
 obtain ⟨rfl,rfl⟩:=he'
 obtain ⟨val,p1,p2,p3⟩:=Ziq (P:=P) ht (vparts:=parts.map fun (i,x)=>(i,ρ x)) (by
  rw [Array.toList_map]
  exact Zjx _ _ (fun p=>⟨rfl,he p.2⟩) parts.toList) hu (fun p hp=>by
   simp only [List.mem_map] at hp
   obtain ⟨q,_,rfl⟩:=hp
   exact hb q.2)
 exact OpOk.still hh hnx (by simp only [execOp,ho,Sem.run_bind,p1];rfl) p2 p3
theorem ZgS (ht : Zk P tab) {F : Nat → Prop} {ids : Nat → Nat × Nat} {w : World} {h h' : Hp} {nx : Nm} {nm : Nat} (hh : RepH F ids w h nx) (hn : ¬ nx nm) (e : Operand → V) (ρ : Operand → Value)
 (he : ∀ x,RepV (Ze F h ids) ids w (e x) (ρ x)) (hb : ∀ x,(e x).Below nx) (hρ : ∀ v,ρ (.const v) = v) (o : Oper) (t : TypeId) (len : Nat) (parts : Array (Nat × Operand)) (ho : o.op = .buildSlice t len parts) {v : V} (hs : sop tab nm e h (.buildSlice t len parts) = some (v,h')) :
 OpOk F ids w h nx ((execOp ρ o).run P w) v h' (nx.add nm):=by
 have hnx : nx.le (nx.add nm):=Nm.le_add _ _
 rw [ZW] at hs
 have hp : All2 (fun p q=>p.1 = q.1 ∧ RepV (Ze F h ids) ids w p.2 q.2) (parts.toList.map fun p=>(p.1,e p.2)) (parts.map fun (i,x)=>(i,ρ x)).toList:=by
  rw [Array.toList_map]
  exact Zjx _ _ (fun p=>⟨rfl,he p.2⟩) parts.toList
 have hbel : ∀ p ∈ parts.toList.map (fun p=>(p.1,e p.2)),p.2.Below nx:=by
  intro p hp
  simp only [List.mem_map] at hp
  obtain ⟨q,_,rfl⟩:=hp
  exact hb q.2
 have q:=Zde (P:=P) ht hh hn hp hbel hs
 rw [show execOp ρ o = (do pure (Next.value (← Instr.buildSlice t len (parts.map fun (i,x)=>(i,ρ x)))) : Sem Next) from by unfold execOp;rw [ho]]
 exact q
theorem ZrW (ht : Zk P tab) {F : Nat → Prop} {ids : Nat → Nat × Nat} {w : World} {h h' : Hp} {nx : Nm} {nm : Nat} (hh : RepH F ids w h nx) (hn : ¬ nx nm) (e : Operand → V) (ρ : Operand → Value)
 (he : ∀ x,RepV (Ze F h ids) ids w (e x) (ρ x)) (hb : ∀ x,(e x).Below nx) (hρ : ∀ v,ρ (.const v) = v) (o : Oper) (t : TypeId) (a : Operand) (ho : o.op = .load t a) {v : V} (hs : sop tab nm e h (.load t a) = some (v,h')) :
 OpOk F ids w h nx ((execOp ρ o).run P w) v h' (nx.add nm):=by
 have hnx : nx.le (nx.add nm):=Nm.le_add _ _
 rw [Zbh,Option.map_eq_some_iff] at hs
 obtain ⟨u,hu,he'⟩:=hs
 simp only [Prod.mk.injEq] at he'
 obtain ⟨rfl,rfl⟩:=he'
 obtain ⟨val,p1,p2,p3⟩:=ZdP (P:=P) ht hh (he a) hu
 exact OpOk.still hh hnx (by simp only [execOp,ho,Sem.run_bind,p1];rfl) p2 p3
theorem ZpZ (ht : Zk P tab) {F : Nat → Prop} {ids : Nat → Nat × Nat} {w : World} {h h' : Hp} {nx : Nm} {nm : Nat} (hh : RepH F ids w h nx) (hn : ¬ nx nm) (e : Operand → V) (ρ : Operand → Value)
 (he : ∀ x,RepV (Ze F h ids) ids w (e x) (ρ x)) (hb : ∀ x,(e x).Below nx) (hρ : ∀ v,ρ (.const v) = v) (o : Oper) (t : TypeId) (a x : Operand) (ho : o.op = .store t a x) {v : V} (hs : sop tab nm e h (.store t a x) = some (v,h')) :
 OpOk F ids w h nx ((execOp ρ o).run P w) v h' (nx.add nm):=by
 have hnx : nx.le (nx.add nm):=Nm.le_add _ _
 rw [Zae,Option.map_eq_some_iff] at hs
 obtain ⟨u,hu,he'⟩:=hs
 simp only [Prod.mk.injEq] at he'
 obtain ⟨rfl,rfl⟩:=he'
 obtain ⟨w',p1,p2⟩:=Zgt (P:=P) ht hh (he a) (he x) (hb x) hu
 exact ⟨undef,w',ids,.inr ⟨by simp only [execOp,ho,Sem.run_bind,p1];rfl,rfl⟩,p2.trans (Chg.skip p2.heap hnx),.un _,.un⟩
theorem Zky (ht : Zk P tab) {F : Nat → Prop} {ids : Nat → Nat × Nat} {w : World} {h h' : Hp} {nx : Nm} {nm : Nat} (hh : RepH F ids w h nx) (hn : ¬ nx nm) (e : Operand → V) (ρ : Operand → Value)
 (he : ∀ x,RepV (Ze F h ids) ids w (e x) (ρ x)) (hb : ∀ x,(e x).Below nx) (hρ : ∀ v,ρ (.const v) = v) (o : Oper) (x : Operand) (ho : o.op = .nilCheck x) {v : V} (hs : sop tab nm e h (.nilCheck x) = some (v,h')) :
 OpOk F ids w h nx ((execOp ρ o).run P w) v h' (nx.add nm):=by
 have hnx : nx.le (nx.add nm):=Nm.le_add _ _
 rw [Qg] at hs
 have hx:=he x
 have hbx:=hb x
 generalize hv : e x = vx at hs hx hbx
 generalize hq : ρ x = qx at hx
 unfold Zad at hs
 split at hs
 case h_5=>cases hs
 all_goals
  cases hs
  refine OpOk.still (val:=qx) hh hnx ?_ hx hbx
  simp only [execOp,ho,hq]
  cases hx
  rfl
theorem Zsy (ht : Zk P tab) {F : Nat → Prop} {ids : Nat → Nat × Nat} {w : World} {h h' : Hp} {nx : Nm} {nm : Nat} (hh : RepH F ids w h nx) (hn : ¬ nx nm) (e : Operand → V) (ρ : Operand → Value)
 (he : ∀ x,RepV (Ze F h ids) ids w (e x) (ρ x)) (hb : ∀ x,(e x).Below nx) (hρ : ∀ v,ρ (.const v) = v) (o : Oper) (op : UnOp) (t : TypeId) (x : Operand) (ho : o.op = .unOp op t x) {v : V} (hs : sop tab nm e h (.unOp op t x) = some (v,h')) :
 OpOk F ids w h nx ((execOp ρ o).run P w) v h' (nx.add nm):=by
 have hnx : nx.le (nx.add nm):=Nm.le_add _ _
 rw [Zdk,Option.map_eq_some_iff] at hs
 obtain ⟨u,hu,he'⟩:=hs
 simp only [Prod.mk.injEq] at he'
 obtain ⟨rfl,rfl⟩:=he'
 obtain ⟨val,rfl,p1⟩:=Zlo (P:=P) (w:=w) (he x) hu
 exact OpOk.still (val:=val) hh hnx (by simp only [execOp,ho,Sem.run_bind,p1];rfl) (.c _) (.c _)
theorem ZkM (ht : Zk P tab) {F : Nat → Prop} {ids : Nat → Nat × Nat} {w : World} {h h' : Hp} {nx : Nm} {nm : Nat} (hh : RepH F ids w h nx) (hn : ¬ nx nm) (e : Operand → V) (ρ : Operand → Value)
 (he : ∀ x,RepV (Ze F h ids) ids w (e x) (ρ x)) (hb : ∀ x,(e x).Below nx) (hρ : ∀ v,ρ (.const v) = v) (o : Oper) (src dst : TypeId) (x : Operand) (ho : o.op = .convert src dst x) {v : V} (hs : sop tab nm e h (.convert src dst x) = some (v,h')) :
 OpOk F ids w h nx ((execOp ρ o).run P w) v h' (nx.add nm):=by
 have hnx : nx.le (nx.add nm):=Nm.le_add _ _
 rw [QG] at hs
 split at hs
 case isFalse=>cases hs
 next hsrc=>
 rw [Option.map_eq_some_iff] at hs
 obtain ⟨u,hu,he'⟩:=hs
 simp only [Prod.mk.injEq] at he'
 obtain ⟨rfl,rfl⟩:=he'
 obtain ⟨val,rfl,p1⟩:=Zh9 (P:=P) (w:=w) ht (he x) hsrc hu
 exact OpOk.still (val:=val) hh hnx (by simp only [execOp,ho,Sem.run_bind,p1];rfl) (.c _) (.c _)
theorem ZdR (ht : Zk P tab) {F : Nat → Prop} {ids : Nat → Nat × Nat} {w : World} {h h' : Hp} {nx : Nm} {nm : Nat} (hh : RepH F ids w h nx) (hn : ¬ nx nm) (e : Operand → V) (ρ : Operand → Value)
 (he : ∀ x,RepV (Ze F h ids) ids w (e x) (ρ x)) (hb : ∀ x,(e x).Below nx) (hρ : ∀ v,ρ (.const v) = v) (o : Oper) (t : TypeId) (x : Operand) (ho : o.op = .makeInterface t x) {v : V} (hs : sop tab nm e h (.makeInterface t x) = some (v,h')) :
 OpOk F ids w h nx ((execOp ρ o).run P w) v h' (nx.add nm):=by
 have hnx : nx.le (nx.add nm):=Nm.le_add _ _
 rw [Z2] at hs
 unfold Zfh at hs
 split at hs
 case h_1=>cases hs
 case h_2=>cases hs
 next hk1 hk2=>
 simp only [Option.some.injEq,Prod.mk.injEq] at hs
 obtain ⟨rfl,rfl⟩:=hs
 refine OpOk.still (val:=.iface t (ρ x)) hh hnx ?_ (.ifc _ _ _ (he x)) (.ifc _ _ (hb x))
 cases hk : (tab t).map Ty.kind with
 | none=>exact absurd hk hk1
 | some k=>
  obtain ⟨d,g,h1,h2,hf⟩:=Qc ht hk
  have hne : ∀ ms,d ≠ .interface ms:=by
   rintro ms rfl
   cases hf
   · next hl=>simp at hl
   · exact hk2 hk
  have : (Instr.makeInterface t (ρ x)).run P w = .ok (.iface t (ρ x)) w:=by
   simp only [Instr.makeInterface,Sem.run_bind,h1,Result.andThen_ok]
   cases d <;> first | rfl | exact absurd rfl (hne _)
  simp only [execOp,ho,Sem.run_bind,this];rfl
theorem ZjX (ht : Zk P tab) {F : Nat → Prop} {ids : Nat → Nat × Nat} {w : World} {h h' : Hp} {nx : Nm} {nm : Nat} (hh : RepH F ids w h nx) (hn : ¬ nx nm) (e : Operand → V) (ρ : Operand → Value)
 (he : ∀ x,RepV (Ze F h ids) ids w (e x) (ρ x)) (hb : ∀ x,(e x).Below nx) (hρ : ∀ v,ρ (.const v) = v) (o : Oper) (fn : Fn) (first cap : Array Operand) (ho : o.op = .makeFunc fn first cap) {v : V} (hs : sop tab nm e h (.makeFunc fn first cap) = some (v,h')) :
 OpOk F ids w h nx ((execOp ρ o).run P w) v h' (nx.add nm):=by
 have hnx : nx.le (nx.add nm):=Nm.le_add _ _
 rw [ZaT] at hs
 simp only [Option.some.injEq,Prod.mk.injEq] at hs
 obtain ⟨rfl,rfl⟩:=hs
 have hrep : ∀ (l : Array Operand) (i : Nat) (x : V) (u : Value),(l.toList.map e)[i]? = some x → (l.map ρ)[i]? = some u → RepV (Ze F h ids) ids w x u:=by
  intro l i x u hx hu
  rw [List.getElem?_map,Option.map_eq_some_iff] at hx
  obtain ⟨y,hy,rfl⟩:=hx
  rw [Array.getElem?_map] at hu
  rw [Array.getElem?_toList] at hy
  rw [hy] at hu
  cases hu
  exact he y
 have hbel : ∀ (l : Array Operand),∀ x ∈ l.toList.map e,x.Below nx:=by
  intro l x hx
  simp only [List.mem_map] at hx
  obtain ⟨y,_,rfl⟩:=hx
  exact hb y
 exact OpOk.still (val:=.func fn (first.map ρ) (cap.map ρ)) hh hnx (by simp only [execOp,ho];rfl)
  (.fn _ _ _ _ _ (by simp) (by simp) (hrep first) (hrep cap)) (.fn _ _ _ (hbel first) (hbel cap))
theorem Zrr (ht : Zk P tab) {F : Nat → Prop} {ids : Nat → Nat × Nat} {w : World} {h h' : Hp} {nx : Nm} {nm : Nat} (hh : RepH F ids w h nx) (hn : ¬ nx nm) (e : Operand → V) (ρ : Operand → Value)
 (he : ∀ x,RepV (Ze F h ids) ids w (e x) (ρ x)) (hb : ∀ x,(e x).Below nx) (hρ : ∀ v,ρ (.const v) = v) (o : Oper) (t : TypeId) (x : Operand) (lo hi mx : Option Operand) (ho : o.op = .slice t x lo hi mx) {v : V} (hs : sop tab nm e h (.slice t x lo hi mx) = some (v,h')) :
 OpOk F ids w h nx ((execOp ρ o).run P w) v h' (nx.add nm):=by
 have hnx : nx.le (nx.add nm):=Nm.le_add _ _
 rw [Zcp,Option.map_eq_some_iff] at hs
 obtain ⟨u,hu,he'⟩:=hs
 simp only [Prod.mk.injEq] at he'
 obtain ⟨rfl,rfl⟩:=he'
 have hopt : ∀ (o : Option Operand) (x : V) (v : Value),o.map e = some x → o.map ρ = some v → RepV (Ze F h ids) ids w x v:=by
  intro o x v h1 h2
  cases o with
  | none=>cases h1
  | some y=>cases h1;cases h2;exact he y
 obtain ⟨val,p1,p2,p3⟩:=Zia (P:=P) ht (vlo:=lo.map ρ) (vhi:=hi.map ρ) (vmx:=mx.map ρ) (he x) (hopt lo) (hopt hi) (hopt mx) (by simp) (by simp) (by simp) (hb x) hu
 exact OpOk.still hh hnx (by simp only [execOp,ho,Sem.run_bind,p1];rfl) p2 p3
theorem Zix (ht : Zk P tab) {F : Nat → Prop} {ids : Nat → Nat × Nat} {w : World} {h h' : Hp} {nx : Nm} {nm : Nat} (hh : RepH F ids w h nx) (hn : ¬ nx nm) (e : Operand → V) (ρ : Operand → Value)
 (he : ∀ x,RepV (Ze F h ids) ids w (e x) (ρ x)) (hb : ∀ x,(e x).Below nx) (hρ : ∀ v,ρ (.const v) = v) (o : Oper) (s : TypeId) (x : Operand) (f : Nat) (ho : o.op = .fieldAddr s x f) {v : V} (hs : sop tab nm e h (.fieldAddr s x f) = some (v,h')) :
 OpOk F ids w h nx ((execOp ρ o).run P w) v h' (nx.add nm):=by
 have hnx : nx.le (nx.add nm):=Nm.le_add _ _
 rw [Qu,Option.map_eq_some_iff] at hs
 obtain ⟨u,hu,he'⟩:=hs
 simp only [Prod.mk.injEq] at he'
 obtain ⟨rfl,rfl⟩:=he'
 obtain ⟨val,p1,p2,p3⟩:=ZdH (P:=P) ht (he x) hu (hb x)
 exact OpOk.still hh hnx (by simp only [execOp,ho,Sem.run_bind,p1];rfl) p2 p3
theorem Zrs (ht : Zk P tab) {F : Nat → Prop} {ids : Nat → Nat × Nat} {w : World} {h h' : Hp} {nx : Nm} {nm : Nat} (hh : RepH F ids w h nx) (hn : ¬ nx nm) (e : Operand → V) (ρ : Operand → Value)
 (he : ∀ x,RepV (Ze F h ids) ids w (e x) (ρ x)) (hb : ∀ x,(e x).Below nx) (hρ : ∀ v,ρ (.const v) = v) (o : Oper) (s : TypeId) (x : Operand) (f : Nat) (ho : o.op = .field s x f) {v : V} (hs : sop tab nm e h (.field s x f) = some (v,h')) :
 OpOk F ids w h nx ((execOp ρ o).run P w) v h' (nx.add nm):=by
 have hnx : nx.le (nx.add nm):=Nm.le_add _ _
 rw [Zce,Option.map_eq_some_iff] at hs
 obtain ⟨u,hu,he'⟩:=hs
 simp only [Prod.mk.injEq] at he'
 obtain ⟨rfl,rfl⟩:=he'
 obtain ⟨val,p1,p2,p3⟩:=ZeJ (P:=P) ht (he x) hu (hb x)
 exact OpOk.still hh hnx (by simp only [execOp,ho,Sem.run_bind,p1];rfl) p2 p3
theorem Zh7 (ht : Zk P tab) {F : Nat → Prop} {ids : Nat → Nat × Nat} {w : World} {h h' : Hp} {nx : Nm} {nm : Nat} (hh : RepH F ids w h nx) (hn : ¬ nx nm) (e : Operand → V) (ρ : Operand → Value)
 (he : ∀ x,RepV (Ze F h ids) ids w (e x) (ρ x)) (hb : ∀ x,(e x).Below nx) (hρ : ∀ v,ρ (.const v) = v) (o : Oper) (t : TypeId) (x i : Operand) (ho : o.op = .indexAddr t x i) {v : V} (hs : sop tab nm e h (.indexAddr t x i) = some (v,h')) :
 OpOk F ids w h nx ((execOp ρ o).run P w) v h' (nx.add nm):=by
 have hnx : nx.le (nx.add nm):=Nm.le_add _ _
 rw [Qs,Option.map_eq_some_iff] at hs
 obtain ⟨u,hu,he'⟩:=hs
 simp only [Prod.mk.injEq] at he'
 obtain ⟨rfl,rfl⟩:=he'
 obtain ⟨val,p1,p2,p3⟩:=ZdW (P:=P) ht (he x) (he i) hu (hb x)
 exact OpOk.still hh hnx (by simp only [execOp,ho,Sem.run_bind,p1];rfl) p2 p3
theorem Zqn (ht : Zk P tab) {F : Nat → Prop} {ids : Nat → Nat × Nat} {w : World} {h h' : Hp} {nx : Nm} {nm : Nat} (hh : RepH F ids w h nx) (hn : ¬ nx nm) (e : Operand → V) (ρ : Operand → Value)
 (he : ∀ x,RepV (Ze F h ids) ids w (e x) (ρ x)) (hb : ∀ x,(e x).Below nx) (hρ : ∀ v,ρ (.const v) = v) (o : Oper) (t : TypeId) (x i : Operand) (ho : o.op = .index t x i) {v : V} (hs : sop tab nm e h (.index t x i) = some (v,h')) :
 OpOk F ids w h nx ((execOp ρ o).run P w) v h' (nx.add nm):=by
 have hnx : nx.le (nx.add nm):=Nm.le_add _ _
 rw [Zch,Option.map_eq_some_iff] at hs
 obtain ⟨u,hu,he'⟩:=hs
 simp only [Prod.mk.injEq] at he'
 obtain ⟨rfl,rfl⟩:=he'
 obtain ⟨val,p1,p2,p3⟩:=Ziu (P:=P) ht (he x) (he i) hu (hb x)
 exact OpOk.still hh hnx (by simp only [execOp,ho,Sem.run_bind,p1];rfl) p2 p3
theorem Znh (ht : Zk P tab) {F : Nat → Prop} {ids : Nat → Nat × Nat} {w : World} {h h' : Hp} {nx : Nm} {nm : Nat} (hh : RepH F ids w h nx) (hn : ¬ nx nm) (e : Operand → V) (ρ : Operand → Value)
 (he : ∀ x,RepV (Ze F h ids) ids w (e x) (ρ x)) (hb : ∀ x,(e x).Below nx) (hρ : ∀ v,ρ (.const v) = v) (o : Oper) (x : Operand) (i : Nat) (ho : o.op = .extract x i) {v : V} (hs : sop tab nm e h (.extract x i) = some (v,h')) :
 OpOk F ids w h nx ((execOp ρ o).run P w) v h' (nx.add nm):=by
 have hnx : nx.le (nx.add nm):=Nm.le_add _ _
 rw [QH] at hs
 have hx:=he x
 have hbx:=hb x
 generalize hv : e x = vx at hs hx hbx
 generalize hq : ρ x = qx at hx
 unfold Zbi at hs
 split at hs
 case h_2=>cases hs
 next xs=>
 rw [Option.map_eq_some_iff] at hs
 obtain ⟨u,hu,he'⟩:=hs
 simp only [Prod.mk.injEq] at he'
 obtain ⟨rfl,rfl⟩:=he'
 cases hx with
 | tup _ arr hsz hrr=>
  cases hbx with
  | tup _ hbx=>
   have hlt:=(List.getElem?_eq_some_iff.1 hu).1
   have hval : arr[i]? = some arr[i]:=by simp [hsz,hlt]
   exact OpOk.still (val:=arr[i]) hh hnx (by simp only [execOp,ho,hq,Instr.extract,hval];rfl) (hrr i _ _ hu hval) (hbx _ (List.mem_of_getElem? hu))
theorem Zri (ht : Zk P tab) {F : Nat → Prop} {ids : Nat → Nat × Nat} {w : World} {h h' : Hp} {nx : Nm} {nm : Nat} (hh : RepH F ids w h nx) (hn : ¬ nx nm) (e : Operand → V) (ρ : Operand → Value)
 (he : ∀ x,RepV (Ze F h ids) ids w (e x) (ρ x)) (hb : ∀ x,(e x).Below nx) (hρ : ∀ v,ρ (.const v) = v) (o : Oper) (op : BinOp) (t : TypeId) (x y : Operand) (t' : TypeId) (ho : o.op = .binOp op t x y t') {v : V} (hs : sop tab nm e h (.binOp op t x y t') = some (v,h')) :
 OpOk F ids w h nx ((execOp ρ o).run P w) v h' (nx.add nm):=by
 have hnx : nx.le (nx.add nm):=Nm.le_add _ _
 rw [ZaZ] at hs
 unfold Zbv at hs
 split at hs
 · next hn'=>
   rw [Option.map_eq_some_iff] at hs
   obtain ⟨b,hb',he'⟩:=hs
   simp only [Prod.mk.injEq] at he'
   obtain ⟨rfl,rfl⟩:=he'
   cases y with
   | const c=>
    have p:=(ZdZ (P:=P) (w:=w) ht (he x) hn' hb' x).1
    refine OpOk.still (val:=.bool b) hh hnx ?_ (.c _) (.c _)
    simp only [execOp,ho,Sem.run_bind,hρ] at p ⊢
    rw [p];rfl
   | _=>simp [ZeE] at hn'
 · next hn'=>
   rw [Option.map_eq_some_iff] at hs
   obtain ⟨b,hb',he'⟩:=hs
   simp only [Prod.mk.injEq] at he'
   obtain ⟨rfl,rfl⟩:=he'
   cases y with
   | const c=>
    have p:=(ZdZ (P:=P) (w:=w) ht (he x) hn' hb' x).2
    refine OpOk.still (val:=.bool (!b)) hh hnx ?_ (.c _) (.c _)
    simp only [execOp,ho,Sem.run_bind,hρ] at p ⊢
    rw [p];rfl
   | _=>simp [ZeE] at hn'
 · rw [Option.map_eq_some_iff] at hs
   obtain ⟨u,hu,he'⟩:=hs
   simp only [Prod.mk.injEq] at he'
   obtain ⟨rfl,rfl⟩:=he'
   obtain ⟨val,rfl,p1⟩:=Zkz (P:=P) (w:=w) ht (he x) (he y) hu x y
   refine OpOk.still (val:=val) hh hnx ?_ (.c _) (.c _)
   simp only [execOp,ho,Sem.run_bind] at p1 ⊢
   rw [p1];rfl
end
set_option linter.unusedVariables false
set_option linter.unusedSimpArgs false
section
variable {P : Program} {tab : Tab}
theorem Yn {α : Type} {a : Array α} {l : List α} (h : a.toList = l) : a = l.toArray:=by rw [← h]
theorem Zsq (ht : Zk P tab) {F : Nat → Prop} {ids : Nat → Nat × Nat} {w : World} {h h' : Hp} {nx : Nm} {nm : Nat} (hh : RepH F ids w h nx) (hn : ¬ nx nm) (e : Operand → V) (ρ : Operand → Value)
 (he : ∀ x,RepV (Ze F h ids) ids w (e x) (ρ x)) (hb : ∀ x,(e x).Below nx) (hρ : ∀ v,ρ (.const v) = v) (o : Oper) (c : Call) (ho : o.op = .call c) {v : V} (hs : sop tab nm e h (.call c) = some (v,h')) :
 OpOk F ids w h nx ((execOp ρ o).run P w) v h' (nx.add nm):=by
 have hnx : nx.le (nx.add nm):=Nm.le_add _ _
 rw [Qt] at hs
 have hex : ∀ b,c.callee = .builtin b → execOp ρ o = builtin b c.argTypes o.type (c.args.map fun | .const _=>true | _=>false) (c.args.map ρ):=by
  intro b hcb
  unfold execOp
  rw [ho]
  simp only [resolve,hcb]
  rfl
 unfold Zdg at hs
 split at hs
 · next hcal=>
   rw [hex _ hcal]
   split at hs
   · next x t hx ht'=>
     rw [Option.map_eq_some_iff] at hs
     obtain ⟨n,hn',he'⟩:=hs
     simp only [Prod.mk.injEq] at he'
     obtain ⟨rfl,rfl⟩:=he'
     rw [Option.bind_eq_some_iff] at hn'
     obtain ⟨τ,hτ,hl⟩:=hn'
     have p:=Zk8 (P:=P) ht hh hτ (he x) hl o.type
     rw [Yn hx,Yn ht']
     refine OpOk.still (val:=.int .i64 n) hh hnx ?_ (.c _) (.c _)
     simp only [builtin,Sem.run_bind,List.map_toArray,List.map_cons,List.map_nil]
     rw [p];rfl
   · cases hs
 · next hcal=>
   rw [hex _ hcal]
   split at hs
   · next s x t t' hx ht'=>
     split at hs
     · next hsl=>
       rw [Yn hx,Yn ht']
       unfold Zif at hsl
       split at hsl
       · next e' hk=>
         rw [Option.map_eq_some_iff] at hk
         obtain ⟨τ',hτ',hk⟩:=hk
         have q:=Zfx (P:=P) (T:=o.type) ht hh hn (he s) (he x) (hb s) (hb x) hτ' ⟨e',hk⟩ hs
         simpa only [builtin,List.map_toArray,List.map_cons,List.map_nil] using q
       · cases hsl
     · cases hs
   · cases hs
 · next hcal=>
   rw [hex _ hcal]
   split at hs
   · next x y hx=>
     rw [Option.map_eq_some_iff] at hs
     obtain ⟨n,hn',he'⟩:=hs
     simp only [Prod.mk.injEq] at he'
     obtain ⟨rfl,rfl⟩:=he'
     rw [Yn hx]
     have hx':=he x
     have hy':=he y
     generalize e x = vx at *
     generalize e y = vy at *
     unfold ZrD at hn'
     split at hn'
     · next k a k' b=>
       split at hn'
       · next hkk=>
         subst hkk
         cases hn'
         refine OpOk.still (val:=.int k (if b < a then b else a)) hh hnx ?_ (by simp only [decide_eq_true_eq];exact .c _) (.c _)
         have e1 : ρ x = .int k a:=by cases hq : ρ x <;> rw [hq] at hx' <;> cases hx' <;> rfl
         have e2 : ρ y = .int k b:=by cases hq : ρ y <;> rw [hq] at hy' <;> cases hy' <;> rfl
         simp [builtin,Builtin.min_,Builtin.min2,e1,e2]
       · cases hn'
     · cases hn'
   · cases hs
 · next hcal=>
   rw [hex _ hcal]
   split at hs
   · next x y hx=>
     rw [Option.map_eq_some_iff] at hs
     obtain ⟨n,hn',he'⟩:=hs
     simp only [Prod.mk.injEq] at he'
     obtain ⟨rfl,rfl⟩:=he'
     rw [Yn hx]
     have hx':=he x
     have hy':=he y
     generalize e x = vx at *
     generalize e y = vy at *
     unfold ZrD at hn'
     split at hn'
     · next k a k' b=>
       split at hn'
       · next hkk=>
         subst hkk
         cases hn'
         refine OpOk.still (val:=.int k (if a < b then b else a)) hh hnx ?_ (by simp only [decide_eq_true_eq];exact .c _) (.c _)
         have e1 : ρ x = .int k a:=by cases hq : ρ x <;> rw [hq] at hx' <;> cases hx' <;> rfl
         have e2 : ρ y = .int k b:=by cases hq : ρ y <;> rw [hq] at hy' <;> cases hy' <;> rfl
         simp [builtin,Builtin.max_,Builtin.max2,e1,e2]
       · cases hn'
     · cases hn'
   · cases hs
 · cases hs
theorem ZdY (ht : Zk P tab) {F : Nat → Prop} {ids : Nat → Nat × Nat} {w : World} {h h' : Hp} {nx : Nm} {nm : Nat} (hh : RepH F ids w h nx) (hn : ¬ nx nm) (e : Operand → V) (ρ : Operand → Value)
 (he : ∀ x,RepV (Ze F h ids) ids w (e x) (ρ x)) (hb : ∀ x,(e x).Below nx) (hρ : ∀ v,ρ (.const v) = v) (o : Oper) {v : V} (hs : sop tab nm e h o.op = some (v,h')) :
 OpOk F ids w h nx ((execOp ρ o).run P w) v h' (nx.add nm):=by
 obtain ⟨dst,op,type,pos,after,guard⟩:=o
 cases op with
 | move x=>exact Zs0 ht hh hn e ρ he hb hρ _ x rfl hs
 | assign x=>exact Zn4 ht hh hn e ρ he hb hρ _ x rfl hs
 | alloc t=>exact ZqD ht hh hn e ρ he hb hρ _ t rfl hs
 | box t x=>exact Zuv ht hh hn e ρ he hb hρ _ t x rfl hs
 | build t ps=>exact Zrv ht hh hn e ρ he hb hρ _ t ps rfl hs
 | buildSlice t n ps=>exact ZgS ht hh hn e ρ he hb hρ _ t n ps rfl hs
 | load t a=>exact ZrW ht hh hn e ρ he hb hρ _ t a rfl hs
 | store t a x=>exact ZpZ ht hh hn e ρ he hb hρ _ t a x rfl hs
 | nilCheck x=>exact Zky ht hh hn e ρ he hb hρ _ x rfl hs
 | binOp op t x y t'=>exact Zri ht hh hn e ρ he hb hρ _ op t x y t' rfl hs
 | unOp op t x=>exact Zsy ht hh hn e ρ he hb hρ _ op t x rfl hs
 | convert s d x=>exact ZkM ht hh hn e ρ he hb hρ _ s d x rfl hs
 | makeInterface t x=>exact ZdR ht hh hn e ρ he hb hρ _ t x rfl hs
 | makeFunc f a b=>exact ZjX ht hh hn e ρ he hb hρ _ f a b rfl hs
 | slice t x l hi m=>exact Zrr ht hh hn e ρ he hb hρ _ t x l hi m rfl hs
 | fieldAddr s x f=>exact Zix ht hh hn e ρ he hb hρ _ s x f rfl hs
 | field s x f=>exact Zrs ht hh hn e ρ he hb hρ _ s x f rfl hs
 | indexAddr t x i=>exact Zh7 ht hh hn e ρ he hb hρ _ t x i rfl hs
 | index t x i=>exact Zqn ht hh hn e ρ he hb hρ _ t x i rfl hs
 | extract x i=>exact Znh ht hh hn e ρ he hb hρ _ x i rfl hs
 | call c=>exact Zsq ht hh hn e ρ he hb hρ _ c rfl hs
 | _=>exact absurd hs (by intro hs;cases hs)
end
set_option linter.unusedVariables false
def ZcG : Obj → Prop
 | .cells ..=>True
 | .map ..=>True
 | _=>False
structure Aside (w w' : World) : Prop where
 size : w.heap.size ≤ w'.heap.size
 keep : ∀ (b : Nat) (o : Obj),ZcG o → w.heap[b]? = some o → w'.heap[b]? = some o
 env : w'.os = w.os ∧ w'.output = w.output
 frz : ∀ a,w'.frozen? a = w.frozen? a
theorem Aside.refl (w : World) : Aside w w:=⟨Nat.le_refl _,fun _ _ _ h=>h,⟨rfl,rfl⟩,fun _=>rfl⟩
theorem Aside.trans {w w1 w2 : World} (h : Aside w w1) (k : Aside w1 w2) : Aside w w2:=
 ⟨Nat.le_trans h.size k.size,fun b o c hb=>k.keep b o c (h.keep b o c hb),⟨k.env.1.trans h.env.1,k.env.2.trans h.env.2⟩,fun a=>(k.frz a).trans (h.frz a)⟩
theorem Aside.put {w : World} {r : Nat} {o o' : Obj} (h : w.heap[r]? = some o) (ho : ¬ ZcG o) (ho' : ¬ ZcG o') : Aside w (w.putObj r o') where
 size:=by simp
 keep:=fun b x hx hb=>by
  by_cases e : b = r
  · subst e;rw [h] at hb;cases hb;exact absurd hx ho
  · exact (World.putObj_heap_other e).trans hb
 env:=⟨rfl,rfl⟩
 frz:=fun a=>by
  unfold World.frozen?
  by_cases e : a.block = r
  · rw [e,h,World.putObj_heap_same (Array.getElem?_eq_some_iff.1 h).1]
    cases o <;> cases o' <;> first | rfl | exact absurd trivial ho | exact absurd trivial ho'
  · rw [World.putObj_heap_other e]
theorem Aside.cell {w w' : World} (h : Aside w w') {a : Addr} {v : Value} (hv : w.cell? a = some v) : w'.cell? a = some v:=by
 unfold World.cell? at hv ⊢
 cases ho : w.heap[a.block]? with
 | none=>rw [ho] at hv;cases hv
 | some o=>
  rw [ho] at hv
  cases o with
  | cells c T fz=>rw [h.keep _ (.cells _ _ _) trivial ho];exact hv
  | _=>cases hv
theorem RepD.aside {A : Nat → Prop} {w w' : World} (hg : Aside w w') {d : D} {v : Value} (h : RepD A w d v) : RepD A w' d v:=by
 induction h with
 | c v h1=>exact .c v h1
 | emp sz a cap=>exact .emp sz a cap
 | lst sz rows b o cap cell hcap hb hn hw hc hd ih=>exact .lst sz rows b o cap cell hcap (Nat.lt_of_lt_of_le hb hg.size) hn hw (fun i row j d h1 h2=>hg.cell (hc i row j d h1 h2)) ih
theorem RepV.aside {A : Nat → Prop} {ids : Nat → Nat × Nat} {w w' : World} (hg : Aside w w') {x : V} {v : Value} (h : RepV A ids w x v) : RepV A ids w' x v:=by
 induction h with
 | un v=>exact .un v
 | c v=>exact .c v
 | lst sz rows clip v h hcl=>exact .lst _ _ _ _ (h.aside hg) hcl
 | sl n sz off len cap ad hl hc=>exact .sl _ _ _ _ _ _ hl fun h0=>let ⟨arr,T,h1,h2,h3⟩:=hc h0;⟨arr,T,hg.keep _ (.cells _ _ _) trivial h1,h2,h3⟩
 | sx n sz off len cap ad hl hc=>exact .sx _ _ _ _ _ _ hl fun h0=>let ⟨arr,T,h1,h2,h3⟩:=hc h0;⟨arr,T,hg.keep _ (.cells _ _ _) trivial h1,h2,h3⟩
 | ac0 n sz ad=>exact .ac0 ..
 | ac1 n sz len v h0 h ih=>exact .ac1 _ _ _ _ h0 ih
 | p n sz i j=>exact .p ..
 | q row j b o cell hb hn hc hd=>exact .q row j b o cell (Nat.lt_of_lt_of_le hb hg.size) hn (fun k d hk=>hg.cell (hc k d hk)) fun k d hk=>(hd k d hk).aside hg
 | agg xs arr hs h ih=>exact .agg _ _ hs ih
 | tup xs arr hs h ih=>exact .tup _ _ hs ih
 | fn f xs ys ar br hs hs' h h' ih ih'=>exact .fn _ _ _ _ _ hs hs' ih ih'
 | ifc t x v h ih=>exact .ifc _ _ _ ih
 | mp n=>exact .mp ..
theorem RepR.aside {A : Nat → Prop} {ids : Nat → Nat × Nat} {w w' : World} (hg : Aside w w') {b : Nat × Nat} {sz : Nat} {r : List (List V)} (h : RepR A ids w b sz r) : RepR A ids w' b sz r:=by
 obtain ⟨arr,T,h1,h2,h3,h4⟩:=h
 refine ⟨arr,T,hg.keep _ (.cells _ _ _) trivial h1,h2,h3,fun i row j x hr hx=>?_⟩
 obtain ⟨v,hv,hr'⟩:=h4 i row j x hr hx
 exact ⟨v,hv,hr'.aside hg⟩
theorem RepB.aside {A : Nat → Prop} {ids : Nat → Nat × Nat} {w w' : World} (hg : Aside w w') {b : Nat × Nat} {x : B} (h : RepB A ids w b x) : RepB A ids w' b x:=by
 cases x with
 | rows sz r=>exact RepR.aside hg h
 | dat sz r=>exact ⟨fun hr=>RepR.aside hg (h.1 hr),h.2⟩
 | map es=>
  obtain ⟨ar,k,h1,h2,h3⟩:=h
  exact ⟨ar,k,hg.keep _ (.map _ _) trivial h1,h2,fun i e mm he hm=>⟨(h3 i e mm he hm).1,(h3 i e mm he hm).2.aside hg⟩⟩
theorem RepH.aside {F : Nat → Prop} {ids : Nat → Nat × Nat} {w w' : World} {h : Hp} {nx : Nm} (hg : Aside w w') (hh : RepH F ids w h nx) : RepH F ids w' h nx:=
 ⟨hh.lt,fun n b hn=>(hh.blk n b hn).aside hg,hh.below,hh.inj,hh.out,fun b hb=>Nat.lt_of_lt_of_le (hh.fsz b hb) hg.size⟩
theorem RepT.aside {F : Nat → Prop} {ids : Nat → Nat × Nat} {w w' : World} {M : Nm} {t : Nat → V} {h : Hp} {n : Nat} {a : Act} (hg : Aside w w') (hr : RepT F ids w M t h n a) {ds : List Deferred} (hd : Marks w' ds) : RepT F ids w' M t h n { a with defers:=ds }:=
 ⟨hr.heap.aside hg,fun i=>(hr.tmps i).aside hg,hr.size,hr.out,hr.below,hd⟩
end Go.Proofs.YtdjnjchpgccbiaaGreat.Abs
