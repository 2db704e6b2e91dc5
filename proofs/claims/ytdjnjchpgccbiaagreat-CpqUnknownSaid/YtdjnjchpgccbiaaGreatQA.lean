/- cpq: the blocks of a call of any kind; New. -/
import Derived.Test.YtdjnjchpgccbiaaGreatNC
import Derived.Test.YtdjnjchpgccbiaaGreatCA
namespace Go.Proofs.YtdjnjchpgccbiaaGreat.Abs
open Go.Proofs
set_option maxRecDepth 10000
set_option linter.unusedSimpArgs false
set_option linter.unusedVariables false
def ZtA (z : Bool) : B:=.rows 1 [[V.bool z]]
def Kop.blkK (o : Kop) (st : Nat) (ν : Nat → Nat) (i : Nat) : B:=
 match o with
 | .ins o=>o.blkB st ν i
 | .can o=>(match i with | 0=>ZrE o st | _=>noB)
 | .bat o=>o.blkB st ν i
 | .unk _ z=>(match i with | 0=>ZtA z | _=>noB)
def Kop.ty : Kop → TypeId
 | .ins _=>92
 | .can _=>80
 | .bat _=>65
 | .unk _ _=>154
def Kop.sz : Kop → Nat
 | .ins _=>16
 | .can _=>10
 | .bat _=>22
 | .unk _ _=>1
def Kop.v (o : Kop) (n : Nat) : V:=.ifc o.ty (.p n o.sz 0 0)
def Zo3 (o : Kop) (z : Int) (n : Nat) : B:=.rows 2 [[o.v n,V.int z]]
def Kop.blkC (o : Kop) (z : Int) (st : Nat) (ν : Nat → Nat) (i : Nat) : B:=
 match i with
 | 0=>Zo3 o z (ν 1)
 | i + 1=>o.blkK st (fun j=>ν (j + 1)) i
def kB0 (o : Kop) (z : Int) (s : Sto) : List (Nat × B):=((List.range 13).map fun i=>(i,o.blkC z 13 (fun i=>i) i)) ++ ZY s 13 15
def nu2 (i : Nat) : Nat:=match i with
 | 0=>0
 | 1=>1
 | i + 2=>18 + i
def kB1 (o : Kop) (z : Int) (s : Sto) : List (Nat × B):=((List.range 13).map fun i=>(nu2 i,o.blkC z 13 nu2 i)) ++ ZY s 13 29
def kBn (o : Kop) : List (Nat × B):=(List.range 13).map fun i=>(5 + i,o.blkC 0 0 (fun i=>5 + i) i)
theorem Zbu {es : List (Value × V)} (h : (es.all fun e=>match e.1 with | .int .i64 _=>true | _=>false) = true) : ZcJ .i64 es:=fun e he=>by
 have h1:=List.all_eq_true.1 h e he
 obtain ⟨a,b⟩:=e
 dsimp only at h1 ⊢
 split at h1
 · exact ⟨_,rfl⟩
 · cases h1
def ZrK (s : Sto) (th : Int) (c : Cl) : List (Nat × B):=[(0,.rows 1 [[.p 3 10 0 0]]),(1,.rows 1 [[V.int th]]),(2,.rows 5 [[V.int c.k,V.int c.t,V.int c.h,V.int c.m,V.int c.b]])] ++ ZY s 3 5
theorem kF1 (s : Sto) (th : Int) (c : Cl) : LSpec Tryz.prog 72 [.p 0 1 0 0,.p 1 1 0 0,.p 2 5 0 0] (ZrK s th c) 8 (.ifc 92 (.p 8 16 0 0)) (ZrK s th c ++ [(8,opR (.new th c.t) 3 fun i=>8 + i)]) 20:=by
 refine lspec tab_ok mix Tryz.func72 (by kernel_rfl) (by rfl) (by rfl) (by rfl) (by rfl) ?_
 (refine go ?_; try exact tt)
 refine Za (ZtO s th c) [some 3,some 4,some 5,some 6,some 7] [] rfl (go ?_)
 exact .mk [(8,320)] (go tt)
theorem kF2 (s : Sto) (th : Int) (c : Cl) : LSpec Tryz.prog 73 [.p 0 1 0 0,.p 1 1 0 0,.p 2 5 0 0] (ZrK s th c) 8 (.ifc 80 (.p 8 10 0 0)) (ZrK s th c ++ [(8,ZrE ⟨th,c.h,0,0,false,false⟩ 3)]) 9:=by
 refine lspec tab_ok mix Tryz.func73 (by kernel_rfl) (by rfl) (by rfl) (by rfl) (by rfl) ?_
 (refine go ?_; try exact tt)
 refine Za (Zut s th c.h c.k c.t c.m c.b) [some 3,some 4,some 5,some 6,some 7] [] rfl (go ?_)
 exact .mk [(8,320)] (go tt)
theorem kF3 (s : Sto) (th : Int) (c : Cl) : LSpec Tryz.prog 74 [.p 0 1 0 0,.p 1 1 0 0,.p 2 5 0 0] (ZrK s th c) 8 (.ifc 65 (.p 8 22 0 0)) (ZrK s th c ++ [(8,ZpI (.new th c) 3 9 10),(9,Zq9 (.new th c)),(10,evB (.new th c))]) 11:=by
 refine lspec tab_ok mix Tryz.func74 (by kernel_rfl) (by rfl) (by rfl) (by rfl) (by rfl) ?_
 (refine go ?_; try exact tt)
 refine Za (Zt7 s th c) [some 3,some 4,some 5,some 6,some 7] [] rfl (go ?_)
 exact .mk [(8,320),(9,321),(10,322)] (go tt)
theorem Zt1 (s : Sto) (th : Int) (c : Cl) (hk : c.k = 1) : LSpec Tryz.prog 17 [.p 0 10 0 0,V.int th,c.v] (ZE s 2) 5 (.p 5 2 0 0) (ZE s 2 ++ kBn (.ins (.new th c.t))) 18:=by
 refine lspec tab_ok mix Tryz.func17 (by kernel_rfl) (by rfl) (by rfl) (by rfl) (by rfl) ?_
 (refine go ?_; try exact tt)
 refine Zdj (go ?_)
 refine Qm tab_ok (kt:=3) (et:=151) (kk:=.i64) rfl rfl rfl rfl rfl (Zbu rfl) _ rfl _ rfl (go ?_)
 refine Qm tab_ok (kt:=3) (et:=151) (kk:=.i64) rfl rfl rfl rfl rfl (Zbu rfl) _ rfl _ rfl (go ?_)
 refine Qm tab_ok (kt:=3) (et:=151) (kk:=.i64) rfl rfl rfl rfl rfl (Zbu rfl) _ rfl _ rfl (go ?_)
 refine Zf9 tab_ok (kt:=3) (et:=151) (kk:=.i64) (z:=.nilFunc) rfl rfl (by kernel_rfl) rfl rfl rfl (Zbu rfl) (.tup [.fn (.func 72) [] [.p 64 1 0 0,.p 128 1 0 0,.p 192 5 0 0],.c (.bool true)]) (by show (match Ys c.k _ 0 with | some p=>_ | none=>_) = _;rw [hk];rfl) (go ?_)
 refine Za (kF1 s th c) [some 64,some 128,some 192,some 0,some 1,some 2,some 3,some 4] [] rfl (go ?_)
 exact .mk [(5,1728),(6,1600)] (go tt)
theorem ZtZ (s : Sto) (th : Int) (c : Cl) (hk : c.k = 2) : LSpec Tryz.prog 17 [.p 0 10 0 0,V.int th,c.v] (ZE s 2) 5 (.p 5 2 0 0) (ZE s 2 ++ kBn (.can ⟨th,c.h,0,0,false,false⟩)) 18:=by
 refine lspec tab_ok mix Tryz.func17 (by kernel_rfl) (by rfl) (by rfl) (by rfl) (by rfl) ?_
 (refine go ?_; try exact tt)
 refine Zdj (go ?_)
 refine Qm tab_ok (kt:=3) (et:=151) (kk:=.i64) rfl rfl rfl rfl rfl (Zbu rfl) _ rfl _ rfl (go ?_)
 refine Qm tab_ok (kt:=3) (et:=151) (kk:=.i64) rfl rfl rfl rfl rfl (Zbu rfl) _ rfl _ rfl (go ?_)
 refine Qm tab_ok (kt:=3) (et:=151) (kk:=.i64) rfl rfl rfl rfl rfl (Zbu rfl) _ rfl _ rfl (go ?_)
 refine Zf9 tab_ok (kt:=3) (et:=151) (kk:=.i64) (z:=.nilFunc) rfl rfl (by kernel_rfl) rfl rfl rfl (Zbu rfl) (.tup [.fn (.func 73) [] [.p 64 1 0 0,.p 128 1 0 0,.p 192 5 0 0],.c (.bool true)]) (by show (match Ys c.k _ 0 with | some p=>_ | none=>_) = _;rw [hk];rfl) (go ?_)
 refine Za (kF2 s th c) [some 64,some 128,some 192,some 0,some 1,some 2,some 3,some 4] [] rfl (go ?_)
 exact .mk [(5,1728),(6,1600)] (go tt)
theorem Zur (s : Sto) (th : Int) (c : Cl) (hk : c.k = 3) : LSpec Tryz.prog 17 [.p 0 10 0 0,V.int th,c.v] (ZE s 2) 5 (.p 5 2 0 0) (ZE s 2 ++ kBn (.bat (.new th c))) 18:=by
 refine lspec tab_ok mix Tryz.func17 (by kernel_rfl) (by rfl) (by rfl) (by rfl) (by rfl) ?_
 (refine go ?_; try exact tt)
 refine Zdj (go ?_)
 refine Qm tab_ok (kt:=3) (et:=151) (kk:=.i64) rfl rfl rfl rfl rfl (Zbu rfl) _ rfl _ rfl (go ?_)
 refine Qm tab_ok (kt:=3) (et:=151) (kk:=.i64) rfl rfl rfl rfl rfl (Zbu rfl) _ rfl _ rfl (go ?_)
 refine Qm tab_ok (kt:=3) (et:=151) (kk:=.i64) rfl rfl rfl rfl rfl (Zbu rfl) _ rfl _ rfl (go ?_)
 refine Zf9 tab_ok (kt:=3) (et:=151) (kk:=.i64) (z:=.nilFunc) rfl rfl (by kernel_rfl) rfl rfl rfl (Zbu rfl) (.tup [.fn (.func 74) [] [.p 64 1 0 0,.p 128 1 0 0,.p 192 5 0 0],.c (.bool true)]) (by show (match Ys c.k _ 0 with | some p=>_ | none=>_) = _;rw [hk];rfl) (go ?_)
 refine Za (kF3 s th c) [some 64,some 128,some 192,some 0,some 1,some 2,some 3,some 4] [] rfl (go ?_)
 exact .mk [(5,1728),(6,1600),(7,1601),(8,1602)] (go tt)
theorem ZtR (s : Sto) (th : Int) (c : Cl) (h1 : c.k ≠ 1) (h2 : c.k ≠ 2) (h3 : c.k ≠ 3) : LSpec Tryz.prog 17 [.p 0 10 0 0,V.int th,c.v] (ZE s 2) 5 (.p 5 2 0 0) (ZE s 2 ++ kBn (.unk th false)) 18:=by
 refine lspec tab_ok mix Tryz.func17 (by kernel_rfl) (by rfl) (by rfl) (by rfl) (by rfl) ?_
 (refine go ?_; try exact tt)
 refine Zdj (go ?_)
 refine Qm tab_ok (kt:=3) (et:=151) (kk:=.i64) rfl rfl rfl rfl rfl (Zbu rfl) _ rfl _ rfl (go ?_)
 refine Qm tab_ok (kt:=3) (et:=151) (kk:=.i64) rfl rfl rfl rfl rfl (Zbu rfl) _ rfl _ rfl (go ?_)
 refine Qm tab_ok (kt:=3) (et:=151) (kk:=.i64) rfl rfl rfl rfl rfl (Zbu rfl) _ rfl _ rfl (go ?_)
 refine Zf9 tab_ok (kt:=3) (et:=151) (kk:=.i64) (z:=.nilFunc) rfl rfl (by kernel_rfl) rfl rfl rfl (Zbu rfl) (.tup [.c .nilFunc,.c (.bool false)]) (by show (match Ys c.k _ 0 with | some p=>_ | none=>_) = _;simp [Zex,Ys,h1,h2,h3];rfl) (go ?_)
 exact .mk [(5,1728),(6,1536)] (go tt)
theorem Kop.new_1 {th : Int} {c : Cl} (h : c.k = 1) : Kop.new th c = .ins (.new th c.t):=by unfold Kop.new;rw [if_pos h]
theorem Kop.new_2 {th : Int} {c : Cl} (h : c.k = 2) : Kop.new th c = .can ⟨th,c.h,0,0,false,false⟩:=by unfold Kop.new;rw [if_neg (by omega),if_pos h]
theorem Kop.new_3 {th : Int} {c : Cl} (h : c.k = 3) : Kop.new th c = .bat (.new th c):=by unfold Kop.new;rw [if_neg (by omega),if_neg (by omega),if_pos h]
theorem Kop.new_0 {th : Int} {c : Cl} (h1 : c.k ≠ 1) (h2 : c.k ≠ 2) (h3 : c.k ≠ 3) : Kop.new th c = .unk th false:=by unfold Kop.new;rw [if_neg h1,if_neg h2,if_neg h3]
theorem Zl5 (s : Sto) (th : Int) (c : Cl) : LSpec Tryz.prog 17 [.p 0 10 0 0,V.int th,c.v] (ZE s 2) 5 (.p 5 2 0 0) (ZE s 2 ++ kBn (.new th c)) 18:=by
 by_cases h1 : c.k = 1
 · rw [Kop.new_1 h1];exact Zt1 s th c h1
 by_cases h2 : c.k = 2
 · rw [Kop.new_2 h2];exact ZtZ s th c h2
 by_cases h3 : c.k = 3
 · rw [Kop.new_3 h3];exact Zur s th c h3
 rw [Kop.new_0 h1 h2 h3]
 exact ZtR s th c h1 h2 h3
theorem ZjS (c : COp) (a n : Nat) (h : n ∈ ZR (ZrE c a)) : n = a:=by
 simpa [ZrE,ZR,Zp,Zc,V.int,V.bool] using h
theorem ZoR (o : Kop) (st : Nat) (ν σ : Nat → Nat) (i : Nat) : ZC σ (o.blkK st ν i) = o.blkK (σ st) (fun i=>σ (ν i)) i:=by
 cases o with
 | ins o=>exact ZhN o st ν σ i
 | bat o=>exact Zf3 o st ν σ i
 | can o=>cases i <;> rfl
 | unk th z=>cases i <;> rfl
theorem Zj3 (o : Kop) (st : Nat) (ν : Nat → Nat) (i : Nat) : ∀ n ∈ ZR (o.blkK st ν i),(∃ j,j < 12 ∧ n = ν j) ∨ n = st:=by
 intro n hn
 cases o with
 | ins o=>exact Zm5 o st ν i n hn
 | bat o=>exact (ZjN o st ν i n hn).imp (fun ⟨j,hj,e⟩=>⟨j,by omega,e⟩) id
 | can o=>
  cases i with
  | zero=>exact .inr (ZjS _ _ _ hn)
  | succ i=>simp [Kop.blkK,noB,ZR] at hn
 | unk th z=>
  cases i with
  | zero=>simp [Kop.blkK,ZtA,ZR,Zp,Zc,V.bool] at hn
  | succ i=>simp [Kop.blkK,noB,ZR] at hn
theorem Zms (o : Kop) (st : Nat) (ν μ : Nat → Nat) (i : Nat) (h : ∀ x,x < 12 → ν x = μ x) : o.blkK st ν i = o.blkK st μ i:=by
 cases o with
 | ins o=>exact ZfF o st ν μ i h
 | bat o=>exact Zd3 o st ν μ i fun x hx=>h x (by omega)
 | can o=>cases i <;> rfl
 | unk th z=>cases i <;> rfl
theorem Zdu (o : Kop) (z : Int) (st : Nat) (ν σ : Nat → Nat) (i : Nat) : ZC σ (o.blkC z st ν i) = o.blkC z (σ st) (fun i=>σ (ν i)) i:=by
 cases i with
 | zero=>rfl
 | succ i=>exact ZoR o st _ σ i
theorem Zfp (o : Kop) (z : Int) (st : Nat) (ν : Nat → Nat) (i : Nat) : ∀ n ∈ ZR (o.blkC z st ν i),(∃ j,j < 13 ∧ n = ν j) ∨ n = st:=by
 intro n hn
 cases i with
 | zero=>
  refine .inl ⟨1,by omega,?_⟩
  simpa [Kop.blkC,Zo3,Kop.v,ZR,Zp,Zc,V.int] using hn
 | succ i=>exact (Zj3 o st _ i n hn).imp (fun ⟨j,hj,e⟩=>⟨j + 1,by omega,e⟩) id
theorem Zcl (o : Kop) (z : Int) (st : Nat) (ν μ : Nat → Nat) (i : Nat) (h : ∀ x,x < 13 → ν x = μ x) : o.blkC z st ν i = o.blkC z st μ i:=by
 cases i with
 | zero=>show Zo3 o z (ν 1) = Zo3 o z (μ 1);rw [h 1 (by omega)]
 | succ i=>exact Zms o st _ _ i fun x hx=>h (x + 1) (by omega)
def Zp7 (o : Kop) (z : Int) (st : Nat) (ν : Nat → Nat) : List (Nat × B):=[(ν 0,o.blkC z st ν 0),(ν 1,o.blkC z st ν 1),(ν 2,o.blkC z st ν 2),(ν 3,o.blkC z st ν 3),(ν 4,o.blkC z st ν 4),(ν 5,o.blkC z st ν 5),(ν 6,o.blkC z st ν 6),(ν 7,o.blkC z st ν 7),(ν 8,o.blkC z st ν 8),(ν 9,o.blkC z st ν 9),(ν 10,o.blkC z st ν 10),(ν 11,o.blkC z st ν 11),(ν 12,o.blkC z st ν 12)]
theorem ZL (o : Kop) (z : Int) (s : Sto) {σ ν : Nat → Nat} {st b l c d : Nat} (hν : ∀ x,x < 13 → σ x = ν x) (h1 : σ 13 = st) (h2 : σ 14 = b) (h3 : σ 15 = l) (h4 : σ 16 = c) (h5 : σ 17 = d) :
 (kB0 o z s).map (fun p=>(σ p.1,ZC σ p.2)) = Zp7 o z st ν ++ Zph s st b l c d:=by
 subst h1 h2 h3 h4 h5
 have hb : ∀ x,x < 13 → ((σ x,ZC σ (o.blkC z 13 (fun i=>i) x)) : Nat × B) = (ν x,o.blkC z (σ 13) ν x):=fun x hx=>by
  rw [hν x hx,Zdu,Zcl o z (σ 13) (fun i=>σ i) ν x hν]
 show [((σ 0,ZC σ (o.blkC z 13 (fun i=>i) 0)) : Nat × B),((σ 1,ZC σ (o.blkC z 13 (fun i=>i) 1)) : Nat × B),((σ 2,ZC σ (o.blkC z 13 (fun i=>i) 2)) : Nat × B),((σ 3,ZC σ (o.blkC z 13 (fun i=>i) 3)) : Nat × B),((σ 4,ZC σ (o.blkC z 13 (fun i=>i) 4)) : Nat × B),((σ 5,ZC σ (o.blkC z 13 (fun i=>i) 5)) : Nat × B),((σ 6,ZC σ (o.blkC z 13 (fun i=>i) 6)) : Nat × B),((σ 7,ZC σ (o.blkC z 13 (fun i=>i) 7)) : Nat × B),((σ 8,ZC σ (o.blkC z 13 (fun i=>i) 8)) : Nat × B),((σ 9,ZC σ (o.blkC z 13 (fun i=>i) 9)) : Nat × B),((σ 10,ZC σ (o.blkC z 13 (fun i=>i) 10)) : Nat × B),((σ 11,ZC σ (o.blkC z 13 (fun i=>i) 11)) : Nat × B),((σ 12,ZC σ (o.blkC z 13 (fun i=>i) 12)) : Nat × B)] ++ _ = _
 rw [hb 0 (by omega),hb 1 (by omega),hb 2 (by omega),hb 3 (by omega),hb 4 (by omega),hb 5 (by omega),hb 6 (by omega),hb 7 (by omega),hb 8 (by omega),hb 9 (by omega),hb 10 (by omega),hb 11 (by omega),hb 12 (by omega)]
 rfl
theorem Zg1 (o : Kop) (z : Int) (s : Sto) {σ ν : Nat → Nat} {st b l c d : Nat} (h0 : σ 0 = ν 0) (h0' : σ 1 = ν 1) (hν : ∀ x,x < 11 → σ (18 + x) = ν (x + 2)) (h1 : σ 13 = st) (h2 : σ 14 = b) (h3 : σ 29 = l) (h4 : σ 16 = c) (h5 : σ 17 = d) :
 (kB1 o z s).map (fun p=>(σ p.1,ZC σ p.2)) = Zp7 o z st ν ++ Zph s st b l c d:=by
 subst h1 h2 h3 h4 h5
 have hμ : ∀ x,x < 13 → σ (nu2 x) = ν x:=fun x hx=>by
  match x with
  | 0=>exact h0
  | 1=>exact h0'
  | x + 2=>exact hν x (by omega)
 have hb : ∀ x,x < 13 → ((σ (nu2 x),ZC σ (o.blkC z 13 nu2 x)) : Nat × B) = (ν x,o.blkC z (σ 13) ν x):=fun x hx=>by
  rw [hμ x hx,Zdu,Zcl o z (σ 13) (fun i=>σ (nu2 i)) ν x hμ]
 show [((σ (nu2 0),ZC σ (o.blkC z 13 nu2 0)) : Nat × B),((σ (nu2 1),ZC σ (o.blkC z 13 nu2 1)) : Nat × B),((σ (nu2 2),ZC σ (o.blkC z 13 nu2 2)) : Nat × B),((σ (nu2 3),ZC σ (o.blkC z 13 nu2 3)) : Nat × B),((σ (nu2 4),ZC σ (o.blkC z 13 nu2 4)) : Nat × B),((σ (nu2 5),ZC σ (o.blkC z 13 nu2 5)) : Nat × B),((σ (nu2 6),ZC σ (o.blkC z 13 nu2 6)) : Nat × B),((σ (nu2 7),ZC σ (o.blkC z 13 nu2 7)) : Nat × B),((σ (nu2 8),ZC σ (o.blkC z 13 nu2 8)) : Nat × B),((σ (nu2 9),ZC σ (o.blkC z 13 nu2 9)) : Nat × B),((σ (nu2 10),ZC σ (o.blkC z 13 nu2 10)) : Nat × B),((σ (nu2 11),ZC σ (o.blkC z 13 nu2 11)) : Nat × B),((σ (nu2 12),ZC σ (o.blkC z 13 nu2 12)) : Nat × B)] ++ _ = _
 rw [hb 0 (by omega),hb 1 (by omega),hb 2 (by omega),hb 3 (by omega),hb 4 (by omega),hb 5 (by omega),hb 6 (by omega),hb 7 (by omega),hb 8 (by omega),hb 9 (by omega),hb 10 (by omega),hb 11 (by omega),hb 12 (by omega)]
 rfl
theorem Zgy (o : Kop) (s : Sto) {σ ν : Nat → Nat} {st b l c d : Nat} (hν : ∀ x,x < 13 → σ (5 + x) = ν x) (h1 : σ 0 = st) (h2 : σ 1 = b) (h3 : σ 2 = l) (h4 : σ 3 = c) (h5 : σ 4 = d) :
 (ZE s 2 ++ kBn o).map (fun p=>(σ p.1,ZC σ p.2)) = Zph s st b l c d ++ Zp7 o 0 st ν:=by
 subst h1 h2 h3 h4 h5
 have hb : ∀ x,x < 13 → ((σ (5 + x),ZC σ (o.blkC 0 0 (fun i=>5 + i) x)) : Nat × B) = (ν x,o.blkC 0 (σ 0) ν x):=fun x hx=>by
  rw [hν x hx,Zdu,Zcl o 0 (σ 0) (fun i=>σ (5 + i)) ν x hν]
 rw [List.map_append]
 show (ZE s 2).map _ ++ [((σ (5 + 0),ZC σ (o.blkC 0 0 (fun i=>5 + i) 0)) : Nat × B),((σ (5 + 1),ZC σ (o.blkC 0 0 (fun i=>5 + i) 1)) : Nat × B),((σ (5 + 2),ZC σ (o.blkC 0 0 (fun i=>5 + i) 2)) : Nat × B),((σ (5 + 3),ZC σ (o.blkC 0 0 (fun i=>5 + i) 3)) : Nat × B),((σ (5 + 4),ZC σ (o.blkC 0 0 (fun i=>5 + i) 4)) : Nat × B),((σ (5 + 5),ZC σ (o.blkC 0 0 (fun i=>5 + i) 5)) : Nat × B),((σ (5 + 6),ZC σ (o.blkC 0 0 (fun i=>5 + i) 6)) : Nat × B),((σ (5 + 7),ZC σ (o.blkC 0 0 (fun i=>5 + i) 7)) : Nat × B),((σ (5 + 8),ZC σ (o.blkC 0 0 (fun i=>5 + i) 8)) : Nat × B),((σ (5 + 9),ZC σ (o.blkC 0 0 (fun i=>5 + i) 9)) : Nat × B),((σ (5 + 10),ZC σ (o.blkC 0 0 (fun i=>5 + i) 10)) : Nat × B),((σ (5 + 11),ZC σ (o.blkC 0 0 (fun i=>5 + i) 11)) : Nat × B),((σ (5 + 12),ZC σ (o.blkC 0 0 (fun i=>5 + i) 12)) : Nat × B)] = _
 rw [hb 0 (by omega),hb 1 (by omega),hb 2 (by omega),hb 3 (by omega),hb 4 (by omega),hb 5 (by omega),hb 6 (by omega),hb 7 (by omega),hb 8 (by omega),hb 9 (by omega),hb 10 (by omega),hb 11 (by omega),hb 12 (by omega)]
 rfl
theorem ZjQ {m : Nat} {o : Kop} {z : Int} {st : Nat} {ν : Nat → Nat} {i b : Nat} {ρ : Nat → Nat} {B' : Option B} {K : Prop} (μ : Nat → Nat) (k : K) (hB : B' = some (o.blkC z st μ i)) (hst : ρ st = st) (hν : ∀ x,x < 13 → ρ (ν x) = μ x) (hb : ∀ x,x < 13 → ν x < b) (hs : st < b) : BO ρ b ((m,o.blkC z st ν i) : Nat × B).2 B' K:=by
 refine .mk _ hB ?_ ?_ k
 · rw [Zdu,hst]
   exact (Zcl o z st _ _ i hν).symm
 · refine QT fun n hn=>?_
   rcases Zfp _ _ _ _ _ n hn with ⟨x,hx,e⟩ | e
   · rw [e];exact hb x hx
   · rw [e];exact hs
theorem Zm (o : Kop) (z : Int) (s : Sto) : ∀ p ∈ kB0 o z s,p.1 < 18 ∧ p.2.Below (Lt 18):=by
 intro p hp
 rcases List.mem_append.1 hp with hp | hp
 · obtain ⟨i,hi,rfl⟩:=List.mem_map.1 hp
   have:=List.mem_range.1 hi
   refine ⟨by dsimp only;omega,QT fun n hn=>?_⟩
   rcases Zfp o z 13 (fun i=>i) i n hn with ⟨j,hj,rfl⟩ | rfl <;> omega
 · exact Zm7 (L:=ZY s 13 15) rfl p hp
def Zb6 (o : Kop) (z : Int) (s : Sto) (d : Bool) (o' : Kop) (s' : Sto) : Prop:=LSpec Tryz.prog 19 [.p 0 2 0 0] (kB0 o z s) 18 (V.bool d) (kB1 o' (z + 1) s') 30
def ksh : List Nat:=[1,18,19,20,21,22,23,24,25,26,27,28]
theorem ZlS : Yp Tryz.prog 92 "Step" 48 := Qr (el := 182) (by kernel_rfl) (by kernel_rfl)
theorem Zic : Yp Tryz.prog 92 "Effect" 331 := Qr (el := 182) (by kernel_rfl) (by kernel_rfl)
theorem Zhe : Yp Tryz.prog 92 "Blocked" 330 := Qr (el := 182) (by kernel_rfl) (by kernel_rfl)
theorem Zik : Yp Tryz.prog 92 "Result" 332 := Qr (el := 182) (by kernel_rfl) (by kernel_rfl)
theorem ZkV : Yp Tryz.prog 80 "Step" 39 := Qr (el := 175) (by kernel_rfl) (by kernel_rfl)
theorem Zio : Yp Tryz.prog 80 "Effect" 329 := Qr (el := 175) (by kernel_rfl) (by kernel_rfl)
theorem Zhl : Yp Tryz.prog 80 "Blocked" 328 := Qr (el := 175) (by kernel_rfl) (by kernel_rfl)
theorem Zib : Yp Tryz.prog 80 "Result" 40 := Qr (el := 175) (by kernel_rfl) (by kernel_rfl)
theorem Zlu : Yp Tryz.prog 65 "Step" 33 := Qr (el := 161) (by kernel_rfl) (by kernel_rfl)
theorem Zie : Yp Tryz.prog 65 "Effect" 35 := Qr (el := 161) (by kernel_rfl) (by kernel_rfl)
theorem Zg2 : Yp Tryz.prog 65 "Blocked" 34 := Qr (el := 161) (by kernel_rfl) (by kernel_rfl)
theorem Zir : Yp Tryz.prog 65 "Result" 29 := Qr (el := 161) (by kernel_rfl) (by kernel_rfl)
theorem ZlH : Yp Tryz.prog 154 "Step" 336 := Qr (el := 155) (by kernel_rfl) (by kernel_rfl)
theorem ZhQ : Yp Tryz.prog 154 "Effect" 334 := Qr (el := 155) (by kernel_rfl) (by kernel_rfl)
theorem ZgY : Yp Tryz.prog 154 "Blocked" 333 := Qr (el := 155) (by kernel_rfl) (by kernel_rfl)
theorem Zih : Yp Tryz.prog 154 "Result" 335 := Qr (el := 155) (by kernel_rfl) (by kernel_rfl)
def muK (n x : Nat) : Nat:=match x with
 | 0=>0
 | 1=>1
 | x + 2=>n + x
theorem Zso {o o' : IOp} {s s' : Sto} {d : Bool} (h : Zap o s d o' s') {z : Int} (hz : 0 ≤ z ∧ z ≤ 1000000000) : Zb6 (.ins o) z s d (.ins o') s':=by
 refine YP ksh tab_ok mix Tryz.func19 (by kernel_rfl) (by rfl) (Zm _ _ _) (by rfl) (by rfl) (go ?_)
 refine Yz 92 ZlS rfl rfl (go ?_)
 refine Qd h [some 1,some 2,some 3,some 4,some 5,some 6,some 7,some 8,some 9,some 10,some 11,some 12,some 13,some 14,some 15,some 16,some 17] [] _ _ _ (ZsO (ν:=fun x=>x + 1) o s (by decide) rfl rfl rfl rfl rfl) (ZsQ (ν:=fun x=>muK 897 (x + 1)) o' s' rfl (by decide) rfl rfl rfl rfl rfl) rfl rfl (go ?_)
 refine .mk [(18,897),(19,898),(20,899),(21,900),(22,901),(23,902),(24,903),(25,904),(26,905),(27,906),(28,907),(29,896)] (go ?_)
 iterate 12 (refine ZjQ (o:=.ins o') (z:=z + 1) (st:=13) (ν:=nu2) (muK 897) ?_ (by rfl) (by rfl) (by decide) (by decide) (by decide);(refine go ?_; try exact tt))
def muB (n x : Nat) : Nat:=match x with
 | 0=>0
 | 1=>1
 | 2=>n
 | 3=>n + 1
 | x=>16 + x
theorem Zsd {o o' : BOp} {s s' : Sto} {d : Bool} (h : ZaF o s d o' s') {z : Int} (hz : 0 ≤ z ∧ z ≤ 1000000000) : Zb6 (.bat o) z s d (.bat o') s':=by
 refine YP ksh tab_ok mix Tryz.func19 (by kernel_rfl) (by rfl) (Zm _ _ _) (by rfl) (by rfl) (go ?_)
 refine Yz 65 Zlu rfl rfl (go ?_)
 refine Qd h [some 1,some 2,some 3,some 13,some 14,some 15,some 16,some 17] [] _ _ _ (ZsB (ν:=fun x=>x + 1) o s (by decide) rfl rfl rfl rfl rfl) (Zr0 (ν:=fun x=>muB 896 (x + 1)) o' s' rfl (by decide) rfl rfl rfl rfl rfl) rfl rfl (go ?_)
 refine .mk [(18,896),(19,897),(29,898)] (go ?_)
 iterate 3 (refine ZjQ (o:=.bat o') (z:=z + 1) (st:=13) (ν:=nu2) (muB 896) ?_ (by rfl) (by rfl) (by decide) (by decide) (by decide);(refine go ?_; try exact tt))
 iterate 9 (refine BO.no (by rfl) (by trivial) ?_;(refine go ?_; try exact tt))
theorem Zqh {o o' : COp} {s s' : Sto} {d : Bool} (h : LSpec Tryz.prog 39 [.p 0 10 0 0] (ZhA o s 3) 6 (V.bool d) (ZhA o' s' 6) 7) {z : Int} (hz : 0 ≤ z ∧ z ≤ 1000000000) : Zb6 (.can o) z s d (.can o') s':=by
 refine YP [] tab_ok mix Tryz.func19 (by kernel_rfl) (by rfl) (Zm _ _ _) (by rfl) (by rfl) (go ?_)
 refine Yz 80 ZkV rfl rfl (go ?_)
 refine Za h [some 1,some 13,some 14,some 15,some 16,some 17] [] rfl (go ?_)
 exact .mk [(29,896)] (go tt)
theorem ZoD (z : Bool) : LSpec Tryz.prog 336 [.p 0 1 0 0] [(0,ZtA z)] 1 (V.bool true) [(0,ZtA true)] 1:=by
 refine lspec tab_ok mix Tryz.func336 (by kernel_rfl) (by rfl) (by rfl) (by rfl) (by rfl) ?_
 (refine go ?_; try exact tt)
 exact .mk [] (go tt)
theorem Zpv (th : Int) (y : Bool) (s : Sto) {z : Int} (hz : 0 ≤ z ∧ z ≤ 1000000000) : Zb6 (.unk th y) z s true (.unk th true) s:=by
 refine YP [] tab_ok mix Tryz.func19 (by kernel_rfl) (by rfl) (Zm _ _ _) (by rfl) (by rfl) (go ?_)
 refine Yz 154 ZlH rfl rfl (go ?_)
 refine Za (ZoD y) [some 1] [] rfl (go ?_)
 exact .mk [(29,15)] (go tt)
def Kop.hasEv : Kop → Bool
 | .bat o=>o.rv
 | _=>false
def Kop.evl : Kop → List (Int × Int)
 | .bat o=>o.ev
 | _=>[]
def Kop.resV (o : Kop) (n : Nat) : V:=.agg [V.int o.res.err,V.int o.res.handle,V.bool o.res.canc,rvV o.hasEv o.evl n]
theorem ZiL (o : Kop) (n : Nat) (σ : Nat → Nat) : ZZ σ (o.resV n) = o.resV (σ n):=by
 show V.agg _ = V.agg _
 simp only [ZbM]
 rw [Zmr];rfl
theorem Kop.ev_blk {o : Kop} (h : o.hasEv = true) (z : Int) (st : Nat) (ν : Nat → Nat) : o.blkC z st ν 3 = .dat 2 (o.evl.map evD):=by
 cases o with
 | bat o=>rfl
 | _=>cases h
theorem ZoL (o : IOp) (z : Int) (s : Sto) : LSpec Tryz.prog 331 [.p 1 16 0 0] (kB0 (.ins o) z s) 18 (V.bool (Kop.ins o).eff) (kB0 (.ins o) z s) 18:=by
 refine YP ((kB0 (Kop.ins o) z s).map fun p : Nat × B=>p.1) tab_ok mix Tryz.func331 (by kernel_rfl) (by rfl) (Zm _ _ _) (by rfl) (by rfl) (go ?_)
 exact ZiB (Zm (Kop.ins o) z s) rfl (fun K k=>go k) (go True.intro)
theorem ZkP (o : COp) (z : Int) (s : Sto) : LSpec Tryz.prog 329 [.p 1 10 0 0] (kB0 (.can o) z s) 18 (V.bool (Kop.can o).eff) (kB0 (.can o) z s) 18:=by
 refine YP ((kB0 (Kop.can o) z s).map fun p : Nat × B=>p.1) tab_ok mix Tryz.func329 (by kernel_rfl) (by rfl) (Zm _ _ _) (by rfl) (by rfl) (go ?_)
 exact ZiB (Zm (Kop.can o) z s) rfl (fun K k=>go k) (go True.intro)
theorem Zoe (o : BOp) (z : Int) (s : Sto) : LSpec Tryz.prog 35 [.p 1 22 0 0] (kB0 (.bat o) z s) 18 (V.bool (Kop.bat o).eff) (kB0 (.bat o) z s) 18:=by
 refine YP ((kB0 (Kop.bat o) z s).map fun p : Nat × B=>p.1) tab_ok mix Tryz.func35 (by kernel_rfl) (by rfl) (Zm _ _ _) (by rfl) (by rfl) (go ?_)
 exact ZiB (Zm (Kop.bat o) z s) rfl (fun K k=>go k) (go True.intro)
theorem Zpk (th : Int) (y : Bool) (z : Int) (s : Sto) : LSpec Tryz.prog 334 [.p 1 1 0 0] (kB0 (.unk th y) z s) 18 (V.bool (Kop.unk th y).eff) (kB0 (.unk th y) z s) 18:=by
 refine YP ((kB0 (Kop.unk th y) z s).map fun p : Nat × B=>p.1) tab_ok mix Tryz.func334 (by kernel_rfl) (by rfl) (Zm _ _ _) (by rfl) (by rfl) (go ?_)
 exact ZiB (Zm (Kop.unk th y) z s) rfl (fun K k=>go k) (go True.intro)
def Kop.gEffect : Kop → FuncId
 | .ins _=>331
 | .can _=>329
 | .bat _=>35
 | .unk _ _=>334
theorem Zao (o : Kop) : Yp Tryz.prog o.ty "Effect" o.gEffect := by
 cases o
 · exact Zic
 · exact Zio
 · exact Zie
 · exact ZhQ
theorem Zca (o : Kop) (z : Int) (s : Sto) : LSpec Tryz.prog o.gEffect [.p 1 o.sz 0 0] (kB0 o z s) 18 (V.bool (o).eff) (kB0 o z s) 18:=by
 cases o
 · exact ZoL _ z s
 · exact ZkP _ z s
 · exact Zoe _ z s
 · exact Zpk _ _ z s
theorem Znt (o : IOp) (z : Int) (s : Sto) : LSpec Tryz.prog 330 [.p 1 16 0 0] (kB0 (.ins o) z s) 18 (V.bool (Kop.ins o).blk) (kB0 (.ins o) z s) 18:=by
 refine YP ((kB0 (Kop.ins o) z s).map fun p : Nat × B=>p.1) tab_ok mix Tryz.func330 (by kernel_rfl) (by rfl) (Zm _ _ _) (by rfl) (by rfl) (go ?_)
 exact ZiB (Zm (Kop.ins o) z s) rfl (fun K k=>go k) (go True.intro)
theorem Zj0 (o : COp) (z : Int) (s : Sto) : LSpec Tryz.prog 328 [.p 1 10 0 0] (kB0 (.can o) z s) 18 (V.bool (Kop.can o).blk) (kB0 (.can o) z s) 18:=by
 refine YP ((kB0 (Kop.can o) z s).map fun p : Nat × B=>p.1) tab_ok mix Tryz.func328 (by kernel_rfl) (by rfl) (Zm _ _ _) (by rfl) (by rfl) (go ?_)
 exact ZiB (Zm (Kop.can o) z s) rfl (fun K k=>go k) (go True.intro)
theorem ZkG (o : BOp) (z : Int) (s : Sto) : LSpec Tryz.prog 34 [.p 1 22 0 0] (kB0 (.bat o) z s) 18 (V.bool (Kop.bat o).blk) (kB0 (.bat o) z s) 18:=by
 refine YP ((kB0 (Kop.bat o) z s).map fun p : Nat × B=>p.1) tab_ok mix Tryz.func34 (by kernel_rfl) (by rfl) (Zm _ _ _) (by rfl) (by rfl) (go ?_)
 exact ZiB (Zm (Kop.bat o) z s) rfl (fun K k=>go k) (go True.intro)
theorem Zmx (th : Int) (y : Bool) (z : Int) (s : Sto) : LSpec Tryz.prog 333 [.p 1 1 0 0] (kB0 (.unk th y) z s) 18 (V.bool (Kop.unk th y).blk) (kB0 (.unk th y) z s) 18:=by
 refine YP ((kB0 (Kop.unk th y) z s).map fun p : Nat × B=>p.1) tab_ok mix Tryz.func333 (by kernel_rfl) (by rfl) (Zm _ _ _) (by rfl) (by rfl) (go ?_)
 exact ZiB (Zm (Kop.unk th y) z s) rfl (fun K k=>go k) (go True.intro)
def Kop.gBlocked : Kop → FuncId
 | .ins _=>330
 | .can _=>328
 | .bat _=>34
 | .unk _ _=>333
theorem ZdQ (o : Kop) : Yp Tryz.prog o.ty "Blocked" o.gBlocked := by
 cases o
 · exact Zhe
 · exact Zhl
 · exact Zg2
 · exact ZgY
theorem Zg9 (o : Kop) (z : Int) (s : Sto) : LSpec Tryz.prog o.gBlocked [.p 1 o.sz 0 0] (kB0 o z s) 18 (V.bool (o).blk) (kB0 o z s) 18:=by
 cases o
 · exact Znt _ z s
 · exact Zj0 _ z s
 · exact ZkG _ z s
 · exact Zmx _ _ z s
theorem Zo4 (o : IOp) (z : Int) (s : Sto) : LSpec Tryz.prog 332 [.p 1 16 0 0] (kB0 (.ins o) z s) 18 (Kop.resV (Kop.ins o) 3) (kB0 (.ins o) z s) 18:=by
 refine YP ((kB0 (Kop.ins o) z s).map fun p : Nat × B=>p.1) tab_ok mix Tryz.func332 (by kernel_rfl) (by rfl) (Zm _ _ _) (by rfl) (by rfl) (go ?_)
 exact ZiB (Zm (Kop.ins o) z s) rfl (fun K k=>go k) (go True.intro)
theorem Zmz (o : COp) (z : Int) (s : Sto) : LSpec Tryz.prog 40 [.p 1 10 0 0] (kB0 (.can o) z s) 18 (Kop.resV (Kop.can o) 3) (kB0 (.can o) z s) 18:=by
 refine YP ((kB0 (Kop.can o) z s).map fun p : Nat × B=>p.1) tab_ok mix Tryz.func40 (by kernel_rfl) (by rfl) (Zm _ _ _) (by rfl) (by rfl) (go ?_)
 exact ZiB (Zm (Kop.can o) z s) rfl (fun K k=>go k) (go True.intro)
theorem Zoo (o : BOp) (z : Int) (s : Sto) : LSpec Tryz.prog 29 [.p 1 22 0 0] (kB0 (.bat o) z s) 18 (Kop.resV (Kop.bat o) 3) (kB0 (.bat o) z s) 18:=by
 obtain ⟨th,c,held,scn,it,w,cl,rem,nf,ev,e,rv,eff,blk⟩:=o
 cases rv with
 | false=>
  refine YP ((kB0 (Kop.bat ⟨th,c,held,scn,it,w,cl,rem,nf,ev,e,false,eff,blk⟩) z s).map fun p : Nat × B=>p.1) tab_ok mix Tryz.func29 (by kernel_rfl) (by rfl) (Zm _ _ _) (by rfl) (by rfl) (go ?_)
  exact ZiB (Zm (Kop.bat ⟨th,c,held,scn,it,w,cl,rem,nf,ev,e,false,eff,blk⟩) z s) rfl (fun K k=>go k) (go True.intro)
 | true=>
  refine YP ((kB0 (Kop.bat ⟨th,c,held,scn,it,w,cl,rem,nf,ev,e,true,eff,blk⟩) z s).map fun p : Nat × B=>p.1) tab_ok mix Tryz.func29 (by kernel_rfl) (by rfl) (Zm _ _ _) (by rfl) (by rfl) (go ?_)
  exact ZiB (Zm (Kop.bat ⟨th,c,held,scn,it,w,cl,rem,nf,ev,e,true,eff,blk⟩) z s) rfl (fun K k=>go k) (go True.intro)
theorem Zok (th : Int) (y : Bool) (z : Int) (s : Sto) : LSpec Tryz.prog 335 [.p 1 1 0 0] (kB0 (.unk th y) z s) 18 (Kop.resV (Kop.unk th y) 3) (kB0 (.unk th y) z s) 18:=by
 cases y with
 | false=>
  refine YP ((kB0 (Kop.unk th false) z s).map fun p : Nat × B=>p.1) tab_ok mix Tryz.func335 (by kernel_rfl) (by rfl) (Zm _ _ _) (by rfl) (by rfl) (go ?_)
  exact ZiB (Zm (Kop.unk th false) z s) rfl (fun K k=>go k) (go True.intro)
 | true=>
  refine YP ((kB0 (Kop.unk th true) z s).map fun p : Nat × B=>p.1) tab_ok mix Tryz.func335 (by kernel_rfl) (by rfl) (Zm _ _ _) (by rfl) (by rfl) (go ?_)
  exact ZiB (Zm (Kop.unk th true) z s) rfl (fun K k=>go k) (go True.intro)
def Kop.gResult : Kop → FuncId
 | .ins _=>332
 | .can _=>40
 | .bat _=>29
 | .unk _ _=>335
theorem Zbd (o : Kop) : Yp Tryz.prog o.ty "Result" o.gResult := by
 cases o
 · exact Zik
 · exact Zib
 · exact Zir
 · exact Zih
theorem Zdq (o : Kop) (z : Int) (s : Sto) : LSpec Tryz.prog o.gResult [.p 1 o.sz 0 0] (kB0 o z s) 18 (Kop.resV (o) 3) (kB0 o z s) 18:=by
 cases o
 · exact Zo4 _ z s
 · exact Zmz _ z s
 · exact Zoo _ z s
 · exact Zok _ _ z s
theorem ZhZ (o : Kop) (z : Int) (s : Sto) : LSpec Tryz.prog 18 [.p 0 2 0 0] (kB0 o z s) 18 (V.int z) (kB0 o z s) 18:=by
 refine YP ((kB0 o z s).map fun p : Nat × B=>p.1) tab_ok mix Tryz.func18 (by kernel_rfl) (by rfl) (Zm _ _ _) (by rfl) (by rfl) (go ?_)
 exact ZiB (Zm o z s) rfl (fun K k=>go k) (go True.intro)
theorem Zsu {n K : Nat} {s : Sto} {S : List Item} {A : Nat → Prop} (h : SB n s S A K) (hK : K + 1 ≤ 20000) (ht : s.m.Thr) {o : Kop} (ho : KopOk n K s S A o) {z : Int} (hz : 0 ≤ z ∧ z ≤ 1000000000) : Zb6 o z s (o.step s).1.done (o.step s).1 (o.step s).2:=by
 cases o with
 | ins o=>exact Zso (Zs1 h hK ht ho) hz
 | bat o=>exact Zsd (Zss h hK ht ho) hz
 | can o=>exact Zqh (ZsE o s h.wds (KCan.ok ho)) hz
 | unk th y=>exact Zpv th y s hz
end Go.Proofs.YtdjnjchpgccbiaaGreat.Abs
