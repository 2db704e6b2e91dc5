/- Insertions as a state machine: states, steps, blocks. -/
import Derived.Test.YtdjnjchpgccbiaaGreatJB
import Derived.Test.YtdjnjchpgccbiaaGreatCA
namespace Go.Proofs.YtdjnjchpgccbiaaGreat.Abs
open Go.Proofs
set_option maxRecDepth 10000
set_option linter.unusedSimpArgs false
set_option linter.unusedVariables false
inductive PC where
 | ret | start | top | conf | undo | rungs | choose | bottom | arena | alloc | leave | put | rel
deriving DecidableEq
structure IOp where
 th : Int
 t : Int
 pc : PC
 hd : Option (List Int × Nat)
 h : Int
 e : Int
 ok : Bool
 eff : Bool
 blk : Bool
def IOp.new (th t : Int) : IOp:=⟨th,t,.start,none,0,0,false,false,false⟩
def hdL : Option (List Int × Nat) → List Int
 | none=>[]
 | some (l,k)=>l.take k
def hdPush : Option (List Int × Nat) → Int → Option (List Int × Nat)
 | none,i=>some ([i],1)
 | some (l,k),i=>some (l.take k ++ [i],k + 1)
def hdPop : Option (List Int × Nat) → Option (List Int × Nat)
 | none=>none
 | some (l,k)=>some (l,k - 1)
def hdLast (hd : Option (List Int × Nat)) : Nat:=((hdL hd).getLastD 0).toNat
def IOp.lock (o : IOp) (s : Sto) (i : Nat) (pc : PC) : IOp × Sto:=
 if (s.m.lock o.th i).2 = true then ({ o with pc:=pc,hd:=if i = 3 then o.hd else hdPush o.hd i,eff:=false,blk:=false },{ s with m:=(s.m.lock o.th i).1 })
 else ({ o with eff:=false,blk:=true },{ s with m:=(s.m.lock o.th i).1 })
def IOp.unlock (o : IOp) (s : Sto) (pc : PC) : IOp × Sto:=
 ({ o with pc:=pc,hd:=hdPop o.hd,eff:=false,blk:=false },{ s with m:=(s.m.unlock o.th (hdLast o.hd)).1 })
def IOp.putS (o : IOp) (s : Sto) : Sto:=if o.ok = true then s.put o.th (slotH o.h).toNat else s
def IOp.step (o : IOp) (s : Sto) : IOp × Sto:=
 match o.pc with
 | .ret=>(o,s)
 | .start=>if o.t < 0 ∨ 1152921504606846976 < o.t then ({ o with pc:=.ret,e:=1,eff:=true,blk:=false },s)
  else ({ o with pc:=if s.m.word 0 ≤ o.t then .top else .rungs,eff:=false,blk:=false },{ s with m:=s.m.load o.th 0 })
 | .top=>o.lock s 0 .conf
 | .conf=>({ o with pc:=if s.m.word 0 ≤ o.t then .arena else .undo,eff:=false,blk:=false },{ s with m:=s.m.load o.th 0 })
 | .undo=>o.unlock s .rungs
 | .rungs=>o.lock s 1 .choose
 | .choose=>({ o with pc:=if (s.accepts o.th o.t).2 = true then .arena else .bottom,eff:=false,blk:=false },(s.accepts o.th o.t).1)
 | .bottom=>o.lock s 2 .arena
 | .arena=>o.lock s 3 .alloc
 | .alloc=>if (s.allocF o.th o.t).2.2 = true then ({ o with pc:=.leave,h:=(s.allocF o.th o.t).2.1,ok:=true,eff:=true,blk:=false },(s.allocF o.th o.t).1)
  else ({ o with pc:=.leave,e:=10,eff:=true,blk:=false },(s.allocF o.th o.t).1)
 | .leave=>({ o with pc:=.put,eff:=false,blk:=false },{ s with m:=(s.m.unlock o.th 3).1 })
 | .put=>o.unlock (o.putS s) (if (hdL o.hd).length ≤ 1 then .ret else .rel)
 | .rel=>o.unlock s (if (hdL o.hd).length ≤ 1 then .ret else .rel)
def IOp.done (o : IOp) : Bool:=match o.pc with
 | .ret=>true
 | _=>false
def noB : B:=.dat 1 []
def nu1 (i : Nat) : Nat:=match i with
 | 0=>0
 | i + 1=>18 + i
def PC.mx : PC → Option (Nat × PC)
 | .top=>some (0,.conf)
 | .rungs=>some (1,.choose)
 | .bottom=>some (2,.arena)
 | .arena=>some (3,.alloc)
 | _=>none
theorem pc_mx {pc : PC} {i : Nat} {n : PC} (h : pc.mx = some (i,n)) : (pc = .top ∧ i = 0 ∧ n = .conf) ∨ (pc = .rungs ∧ i = 1 ∧ n = .choose) ∨ (pc = .bottom ∧ i = 2 ∧ n = .arena) ∨ (pc = .arena ∧ i = 3 ∧ n = .alloc):=by
 cases pc <;> simp_all [PC.mx]
set_option maxHeartbeats 4000000
inductive Shp : PC → Option (List Int × Nat) → Prop
 | start : Shp .start none
 | top : Shp .top none
 | conf : Shp .conf (some ([0],1))
 | undo : Shp .undo (some ([0],1))
 | r0 : Shp .rungs none
 | r1 : Shp .rungs (some ([0],0))
 | choose : Shp .choose (some ([1],1))
 | bottom : Shp .bottom (some ([1],1))
 | a0 : Shp .arena (some ([0],1))
 | a1 : Shp .arena (some ([1],1))
 | a2 : Shp .arena (some ([1,2],2))
 | l0 : Shp .alloc (some ([0],1))
 | l1 : Shp .alloc (some ([1],1))
 | l2 : Shp .alloc (some ([1,2],2))
 | v0 : Shp .leave (some ([0],1))
 | v1 : Shp .leave (some ([1],1))
 | v2 : Shp .leave (some ([1,2],2))
 | p0 : Shp .put (some ([0],1))
 | p1 : Shp .put (some ([1],1))
 | p2 : Shp .put (some ([1,2],2))
 | rel : Shp .rel (some ([1,2],1))
def PC.late : PC → Bool
 | .leave | .put | .rel | .ret=>true
 | _=>false
structure IOk (n : Nat) (A : Nat → Prop) (o : IOp) : Prop where
 shp : Shp o.pc o.hd
 th0 : 0 ≤ o.th
 early : o.pc.late = false → o.ok = false ∧ o.e = 0 ∧ o.h = 0
 tm : o.pc ≠ .start → 0 ≤ o.t ∧ o.t ≤ 1152921504606846976
 full : o.ok = false → o.pc.late = true → o.e = 10 ∧ o.h = 0
 won : o.ok = true → o.e = 0
 hand : o.ok = true → (o.pc = .leave ∨ o.pc = .put) → ∃ i : Nat,i < n ∧ slotH o.h = i ∧ A i
theorem IOk.new {n : Nat} {A : Nat → Prop} {th : Int} (h : 0 ≤ th) (t : Int) : IOk n A (.new th t):=
 ⟨.start,h,fun _=>⟨rfl,rfl,rfl⟩,fun x=>absurd rfl x,fun _ x=>(by cases x),fun x=>(by cases x),fun x=>(by cases x)⟩
end Go.Proofs.YtdjnjchpgccbiaaGreat.Abs
