/- Insertions as a state machine: states, steps, blocks. -/
import Derived.Test.YtdjnjchpgccbiaaGreatJB
import Derived.Test.YtdjnjchpgccbiaaGreatCA
namespace Go.Proofs.YtdjnjchpgccbiaaGreat.Abs
open Go.Proofs
set_option maxRecDepth 10000
set_option linter.unusedSimpArgs false
set_option linter.unusedVariables false
inductive PC where
 | ret | start | top | conf | undo | rungs | choose | bottom | arena | alloc | leave | put | rel
deriving DecidableEq
structure IOp where
 th : Int
 t : Int
 pc : PC
 hd : Option (List Int × Nat)
 h : Int
 e : Int
 ok : Bool
 eff : Bool
 blk : Bool
def IOp.new (th t : Int) : IOp:=⟨th,t,.start,none,0,0,false,false,false⟩
def hdL : Option (List Int × Nat) → List Int
 | none=>[]
 | some (l,k)=>l.take k
def Zbw : Option (List Int × Nat) → Int → Option (List Int × Nat)
 | none,i=>some ([i],1)
 | some (l,k),i=>some (l.take k ++ [i],k + 1)
def ZkA : Option (List Int × Nat) → Option (List Int × Nat)
 | none=>none
 | some (l,k)=>some (l,k - 1)
def Zpu (hd : Option (List Int × Nat)) : Nat:=((hdL hd).getLastD 0).toNat
def IOp.lock (o : IOp) (s : Sto) (i : Nat) (pc : PC) : IOp × Sto:=
 if (s.m.lock o.th i).2 = true then ({ o with pc:=pc,hd:=if i = 3 then o.hd else Zbw o.hd i,eff:=false,blk:=false },{ s with m:=(s.m.lock o.th i).1 })
 else ({ o with eff:=false,blk:=true },{ s with m:=(s.m.lock o.th i).1 })
def IOp.unlock (o : IOp) (s : Sto) (pc : PC) : IOp × Sto:=
 ({ o with pc:=pc,hd:=ZkA o.hd,eff:=false,blk:=false },{ s with m:=(s.m.unlock o.th (Zpu o.hd)).1 })
def IOp.putS (o : IOp) (s : Sto) : Sto:=if o.ok = true then s.put o.th (ZM o.h).toNat else s
def IOp.step (o : IOp) (s : Sto) : IOp × Sto:=
 match o.pc with
 | .ret=>(o,s)
 | .start=>if o.t < 0 ∨ 1152921504606846976 < o.t then ({ o with pc:=.ret,e:=1,eff:=true,blk:=false },s)
  else ({ o with pc:=if s.m.word 0 ≤ o.t then .top else .rungs,eff:=false,blk:=false },{ s with m:=s.m.load o.th 0 })
 | .top=>o.lock s 0 .conf
 | .conf=>({ o with pc:=if s.m.word 0 ≤ o.t then .arena else .undo,eff:=false,blk:=false },{ s with m:=s.m.load o.th 0 })
 | .undo=>o.unlock s .rungs
 | .rungs=>o.lock s 1 .choose
 | .choose=>({ o with pc:=if (s.accepts o.th o.t).2 = true then .arena else .bottom,eff:=false,blk:=false },(s.accepts o.th o.t).1)
 | .bottom=>o.lock s 2 .arena
 | .arena=>o.lock s 3 .alloc
 | .alloc=>if (s.allocF o.th o.t).2.2 = true then ({ o with pc:=.leave,h:=(s.allocF o.th o.t).2.1,ok:=true,eff:=true,blk:=false },(s.allocF o.th o.t).1)
  else ({ o with pc:=.leave,e:=10,eff:=true,blk:=false },(s.allocF o.th o.t).1)
 | .leave=>({ o with pc:=.put,eff:=false,blk:=false },{ s with m:=(s.m.unlock o.th 3).1 })
 | .put=>o.unlock (o.putS s) (if (hdL o.hd).length ≤ 1 then .ret else .rel)
 | .rel=>o.unlock s (if (hdL o.hd).length ≤ 1 then .ret else .rel)
def IOp.done (o : IOp) : Bool:=match o.pc with
 | .ret=>true
 | _=>false
def pO (ν : Nat → Nat) : V:=.p (ν 0) 16 0 0
def pB (ν : Nat → Nat) (i : Nat) : V:=.p (ν i) 1 0 0
def fnO (f : FuncId) (ν : Nat → Nat) : V:=.fn (.func f) [pO ν] []
def fnT (ν : Nat → Nat) (i : Nat) : V:=.fn (.func 227) [] [pB ν i,pB ν (i + 1),pB ν (i + 2),pB ν (i + 3)]
def nxV (pc : PC) (ν : Nat → Nat) : V:=
 match pc with
 | .ret=>.c .nilFunc
 | .start=>fnO 102 ν
 | .conf=>fnO 182 ν
 | .choose=>fnO 231 ν
 | .alloc=>fnO 259 ν
 | .leave=>fnO 287 ν
 | .rel=>fnO 304 ν
 | .undo=>.fn (.func 229) [] [pB ν 2]
 | .put=>.fn (.func 303) [] [pB ν 2]
 | .top=>fnT ν 2
 | .rungs=>fnT ν 2
 | .bottom=>fnT ν 2
 | .arena=>fnT ν 2
def hdV (hd : Option (List Int × Nat)) (n : Nat) : V:=
 match hd with
 | none=>.c (.slice none 0 0)
 | some (_,k)=>.sl n 1 0 k
def hdD (hd : Option (List Int × Nat)) : B:=
 match hd with
 | none=>.dat 1 []
 | some (l,_)=>.dat 1 (l.map QF)
def ptV (ok : Bool) (ν : Nat → Nat) : V:=
 match ok with
 | false=>.fn (.func 101) [] []
 | true=>.fn (.func 286) [] [pB ν 10,pB ν 11]
def Zuu : V:=.c (.slice none 0 0)
def Zor : PC → Bool
 | .ret=>true
 | _=>false
def opR (o : IOp) (st : Nat) (ν : Nat → Nat) : B:=
 .rows 16 [[.p st 10 0 0,V.int o.th,V.int o.t,nxV o.pc ν,hdV o.hd (ν 1),ptV o.ok ν,V.int o.e,V.int o.h,V.bool false,Zuu,
  V.int (match o.pc with | .ret=>o.e | _=>0),V.int (match o.pc with | .ret=>o.h | _=>0),V.bool false,Zuu,V.bool o.eff,V.bool o.blk]]
def noB : B:=.dat 1 []
def cl1 (x : V) : B:=.rows 1 [[x]]
def ZpO (pc : PC) (ν : Nat → Nat) : B:=
 match pc with
 | .top | .rungs | .bottom | .arena | .undo | .put=>cl1 (pO ν)
 | _=>noB
def ZsS (pc : PC) : B:=
 match pc with
 | .top=>cl1 (V.int 0)
 | .rungs=>cl1 (V.int 1)
 | .bottom=>cl1 (V.int 2)
 | .arena=>cl1 (V.int 3)
 | _=>noB
def Zr1 (pc : PC) (ν : Nat → Nat) : B:=
 match pc with
 | .top | .rungs | .bottom | .arena=>cl1 (fnT ν 2)
 | _=>noB
def Zsf (pc : PC) (ν : Nat → Nat) : B:=
 match pc with
 | .top=>cl1 (fnO 182 ν)
 | .rungs=>cl1 (fnO 231 ν)
 | .bottom=>cl1 (fnT ν 6)
 | .arena=>cl1 (fnO 259 ν)
 | _=>noB
def ZnC (pc : PC) (x : B) : B:=
 match pc with
 | .bottom=>x
 | _=>noB
def ZtB (ok : Bool) (x : B) : B:=
 match ok with
 | true=>x
 | false=>noB
def IOp.blkB (o : IOp) (st : Nat) (ν : Nat → Nat) (i : Nat) : B:=
 match i with
 | 0=>opR o st ν
 | 1=>hdD o.hd
 | 2=>ZpO o.pc ν
 | 3=>ZsS o.pc
 | 4=>Zr1 o.pc ν
 | 5=>Zsf o.pc ν
 | 6=>ZnC o.pc (cl1 (pO ν))
 | 7=>ZnC o.pc (cl1 (V.int 3))
 | 8=>ZnC o.pc (cl1 (fnT ν 6))
 | 9=>ZnC o.pc (cl1 (fnO 259 ν))
 | 10=>ZtB o.ok (cl1 (pO ν))
 | 11=>ZtB o.ok (cl1 (V.int o.h))
 | _=>noB
def iB0 (o : IOp) (s : Sto) : List (Nat × B):=((List.range 12).map fun i=>(i,o.blkB 12 (fun i=>i) i)) ++ ZY s 12 14
def nu1 (i : Nat) : Nat:=match i with
 | 0=>0
 | i + 1=>18 + i
def iB1 (o : IOp) (s : Sto) : List (Nat × B):=((List.range 12).map fun i=>(nu1 i,o.blkB 12 nu1 i)) ++ ZY s 12 17
theorem Zh4 (f : FuncId) (i : Int) : LSpec Tryz.prog 181 [.p 0 16 0 0,V.int i,.fn (.func f) [.p 0 16 0 0] []] [] 1 (fnT (fun i=>i) 1) [(1,cl1 (.p 0 16 0 0)),(2,cl1 (V.int i)),(3,cl1 (fnT (fun i=>i) 1)),(4,cl1 (.fn (.func f) [.p 0 16 0 0] []))] 5:=by
 refine lspec tab_ok mix Tryz.func181 (by kernel_rfl) (by rfl) (by rfl) (by rfl) (by rfl) ?_
 (refine go ?_; try exact tt)
 exact .mk [(1,64),(2,128),(3,320),(4,192)] (go tt)
theorem ZnV (i : Int) : LSpec Tryz.prog 181 [.p 0 16 0 0,V.int i,fnT (fun i=>i) 1] [] 5 (fnT (fun i=>i) 5) [(5,cl1 (.p 0 16 0 0)),(6,cl1 (V.int i)),(7,cl1 (fnT (fun i=>i) 5)),(8,cl1 (fnT (fun i=>i) 1))] 9:=by
 refine lspec tab_ok mix Tryz.func181 (by kernel_rfl) (by rfl) (by rfl) (by rfl) (by rfl) ?_
 (refine go ?_; try exact tt)
 exact .mk [(5,64),(6,128),(7,320),(8,192)] (go tt)
theorem ZsU : LSpec Tryz.prog 183 [.p 0 16 0 0] [] 1 (fnT (fun i=>i) 1) [(1,cl1 (.p 0 16 0 0)),(2,cl1 (V.int 1)),(3,cl1 (fnT (fun i=>i) 1)),(4,cl1 (fnO 231 fun i=>i))] 5:=by
 refine lspec tab_ok mix Tryz.func183 (by kernel_rfl) (by rfl) (by rfl) (by rfl) (by rfl) ?_
 (refine go ?_; try exact tt)
 refine Za (Zh4 231 1) [some 0] [] rfl (go ?_)
 exact .mk [(1,320),(2,321),(3,322),(4,323)] (go tt)
theorem ZiA : LSpec Tryz.prog 228 [.p 0 16 0 0] [] 1 (fnT (fun i=>i) 1) [(1,cl1 (.p 0 16 0 0)),(2,cl1 (V.int 3)),(3,cl1 (fnT (fun i=>i) 1)),(4,cl1 (fnO 259 fun i=>i))] 5:=by
 refine lspec tab_ok mix Tryz.func228 (by kernel_rfl) (by rfl) (by rfl) (by rfl) (by rfl) ?_
 (refine go ?_; try exact tt)
 refine Za (Zh4 259 3) [some 0] [] rfl (go ?_)
 exact .mk [(1,320),(2,321),(3,322),(4,323)] (go tt)
theorem ZuA (o : IOp) (s : Sto) (hpc : (o.pc = .start ∧ o.hd = none) ∨ (o.pc = .conf ∧ ∃ l k,o.hd = some (l,k))) (hok : o.ok = false) (hf : s.Fits) (hw : 0 < s.m.words.length) :
 LSpec Tryz.prog 180 [.p 0 16 0 0] ((0,opR o 12 fun i=>i) :: ZY s 12 14) 17 (V.bool (decide (s.m.word 0 ≤ o.t))) ((0,opR o 12 fun i=>i) :: ZY { s with m:=s.m.load o.th 0 } 12 17) 18:=by
 have hl:=ZpV s.m o.th 0 hw hf.mem
 obtain ⟨th,t,pc,hd,h,e,ok,ef,bl⟩:=o
 dsimp only at hpc hok hl ⊢
 subst hok
 generalize s.m.load th 0 = m' at *
 generalize s.m.word 0 = w at *
 rcases hpc with ⟨rfl,rfl⟩ | ⟨rfl,l,k,rfl⟩
 · refine lspec tab_ok mix Tryz.func180 (by kernel_rfl) (by rfl) (by rfl) (by rfl) (by rfl) ?_
   (refine go ?_; try exact tt)
   refine Yq (ZB s) [some 12,some 13,some 14,some 15,some 16] rfl rfl (go ?_)
   refine Zu hl [some 13,some 14,some 15,some 16] [] (go ?_)
   refine .mk [(17,960)] (go ?_);try exact tt
 · refine lspec tab_ok mix Tryz.func180 (by kernel_rfl) (by rfl) (by rfl) (by rfl) (by rfl) ?_
   (refine go ?_; try exact tt)
   refine Yq (ZB s) [some 12,some 13,some 14,some 15,some 16] rfl rfl (go ?_)
   refine Zu hl [some 13,some 14,some 15,some 16] [] (go ?_)
   exact .mk [(17,960)] (go tt)
abbrev id1 : Nat → Nat:=fun i=>i
def Zsz (pc : PC) (ν : Nat → Nat) : List (Nat × B):=[(ν 2,ZpO pc ν),(ν 3,ZsS pc),(ν 4,Zr1 pc ν),(ν 5,Zsf pc ν)]
theorem Zlx (o : IOp) (s : Sto) (hpc : o.pc = .start) (hhd : o.hd = none) (hok : o.ok = false) (ht : o.t < 0 ∨ 1152921504606846976 < o.t) :
 LSpec Tryz.prog 102 [.p 0 16 0 0] ((0,opR o 12 id1) :: ZY s 12 14) 17 (nxV .ret id1) ((0,opR { o with e:=1,eff:=true } 12 id1) :: ZY s 12 14) 17:=by
 obtain ⟨th,t,pc,hd,h,e,ok,ef,bl⟩:=o
 dsimp only at hpc hhd hok ht ⊢
 subst hok hpc hhd
 refine lspec tab_ok mix Tryz.func102 (by kernel_rfl) (by rfl) (by rfl) (by rfl) (by rfl) ?_
 (refine go ?_; try exact tt)
 by_cases h1 : t < 0
 · rw [decide_eq_true h1]
   (refine go ?_; try exact tt)
   refine .mk [] (go ?_);try exact tt
 · rw [decide_eq_false h1]
   (refine go ?_; try exact tt)
   rw [decide_eq_true (ht.resolve_left h1)]
   (refine go ?_; try exact tt)
   exact .mk [] (go tt)
theorem Ztf (o : IOp) (s : Sto) (hpc : o.pc = .start) (hhd : o.hd = none) (hok : o.ok = false) (ht : ¬ (o.t < 0 ∨ 1152921504606846976 < o.t)) (hf : s.Fits) (hw : 0 < s.m.words.length) (pc' : PC) (hp' : pc' = if s.m.word 0 ≤ o.t then .top else .rungs) :
 LSpec Tryz.prog 102 [.p 0 16 0 0] ((0,opR o 12 id1) :: ZY s 12 14) 17 (nxV pc' nu1) ((0,opR o 12 id1) :: (Zsz pc' nu1 ++ ZY { s with m:=s.m.load o.th 0 } 12 17)) 29:=by
 have hl:=ZuA o s (.inl ⟨hpc,hhd⟩) hok hf hw
 obtain ⟨th,t,pc,hd,h,e,ok,ef,bl⟩:=o
 dsimp only at hpc hhd hok ht hl hp' ⊢
 subst hok hpc hhd
 generalize s.m.load th 0 = m' at *
 generalize s.m.word 0 = w at *
 by_cases hc : w ≤ t
 · rw [decide_eq_true hc] at hl
   rw [if_pos hc] at hp'
   subst hp'
   refine lspec tab_ok mix Tryz.func102 (by kernel_rfl) (by rfl) (by rfl) (by rfl) (by rfl) ?_
   (refine go ?_; try exact tt)
   rw [decide_eq_false (fun x=>ht (.inl x))]
   (refine go ?_; try exact tt)
   rw [decide_eq_false (fun x=>ht (.inr x))]
   (refine go ?_; try exact tt)
   refine Za hl [some 0,none,none,none,none,none,none,none,none,none,none,none,some 12,some 13,some 14,some 15,some 16] [] rfl (go ?_)
   refine Za (Zh4 182 0) [some 0] [] rfl (go ?_)
   refine .mk [(17,1024),(19,1344),(20,1345),(21,1346),(22,1347)] (go ?_);try exact tt
 · rw [decide_eq_false hc] at hl
   rw [if_neg hc] at hp'
   subst hp'
   refine lspec tab_ok mix Tryz.func102 (by kernel_rfl) (by rfl) (by rfl) (by rfl) (by rfl) ?_
   (refine go ?_; try exact tt)
   rw [decide_eq_false (fun x=>ht (.inl x))]
   (refine go ?_; try exact tt)
   rw [decide_eq_false (fun x=>ht (.inr x))]
   (refine go ?_; try exact tt)
   refine Za hl [some 0,none,none,none,none,none,none,none,none,none,none,none,some 12,some 13,some 14,some 15,some 16] [] rfl (go ?_)
   refine Za ZsU [some 0] [] rfl (go ?_)
   exact .mk [(17,1024),(19,1216),(20,1217),(21,1218),(22,1219)] (go tt)
def PC.mx : PC → Option (Nat × PC)
 | .top=>some (0,.conf)
 | .rungs=>some (1,.choose)
 | .bottom=>some (2,.arena)
 | .arena=>some (3,.alloc)
 | _=>none
def nx4 (pc : PC) : List (Nat × B):=[(2,ZpO pc id1),(3,ZsS pc),(4,Zr1 pc id1),(5,Zsf pc id1)]
def ZuI (pc : PC) : V:=
 match pc with
 | .top=>fnO 182 id1
 | .rungs=>fnO 231 id1
 | .bottom=>fnT id1 6
 | _=>fnO 259 id1
theorem ZfE {pc : PC} {i : Nat} {n : PC} (h : pc.mx = some (i,n)) : (pc = .top ∧ i = 0 ∧ n = .conf) ∨ (pc = .rungs ∧ i = 1 ∧ n = .choose) ∨ (pc = .bottom ∧ i = 2 ∧ n = .arena) ∨ (pc = .arena ∧ i = 3 ∧ n = .alloc):=by
 cases pc <;> simp_all [PC.mx]
set_option maxHeartbeats 4000000 in
theorem Zui (o : IOp) (s : Sto) {i : Nat} {n : PC} (hpc : o.pc.mx = some (i,n)) (hok : o.ok = false) (hf : s.Fits) (hm : 4 ≤ s.m.mtx.length) (hl : (s.m.lock o.th i).2 = false) :
 LSpec Tryz.prog 227 [.p 2 1 0 0,.p 3 1 0 0,.p 4 1 0 0,.p 5 1 0 0] ((0,opR o 12 id1) :: (nx4 o.pc ++ ZY s 12 14)) 17 (nxV o.pc id1) ((0,opR { o with blk:=true } 12 id1) :: (nx4 o.pc ++ ZY { s with m:=(s.m.lock o.th i).1 } 12 17)) 18:=by
 have hc:=Zmw s.m o.th i (by rcases ZfE hpc with ⟨_,rfl,_⟩ | ⟨_,rfl,_⟩ | ⟨_,rfl,_⟩ | ⟨_,rfl,_⟩ <;> omega) hf.mem
 rw [hl] at hc
 obtain ⟨th,t,pc,hd,h,e,ok,ef,bl⟩:=o
 dsimp only at hpc hok hc ⊢
 subst hok
 generalize (s.m.lock th i).1 = m' at *
 rcases ZfE hpc with ⟨rfl,rfl,_⟩ | ⟨rfl,rfl,_⟩ | ⟨rfl,rfl,_⟩ | ⟨rfl,rfl,_⟩ <;> (rcases hd with _ | ⟨l,k⟩) <;> (
  refine lspec tab_ok mix Tryz.func227 (by kernel_rfl) (by rfl) (by rfl) (by rfl) (by rfl) ?_
  (refine go ?_; try exact tt)
  refine Yq (ZB s) [some 12,some 13,some 14,some 15,some 16] rfl rfl (go ?_)
  refine Zu hc [some 13,some 14,some 15,some 16] [] (go ?_)
  refine .mk [(17,768)] ?_
  (refine go ?_; try exact tt))
def mu1 (i : Nat) : Nat:=match i with
 | 1=>18
 | i=>i
theorem Zog (o : IOp) (s : Sto) (hpc : o.pc = .arena) (hok : o.ok = false) (hf : s.Fits) (hm : 4 ≤ s.m.mtx.length) (hl : (s.m.lock o.th 3).2 = true) :
 LSpec Tryz.prog 227 [.p 2 1 0 0,.p 3 1 0 0,.p 4 1 0 0,.p 5 1 0 0] ((0,opR o 12 id1) :: (nx4 o.pc ++ ZY s 12 14)) 17 (ZuI o.pc) ((0,opR o 12 id1) :: ZY { s with m:=(s.m.lock o.th 3).1 } 12 17) 18:=by
 have hc:=Zmw s.m o.th 3 (by omega) hf.mem
 rw [hl] at hc
 obtain ⟨th,t,pc,hd,h,e,ok,ef,bl⟩:=o
 dsimp only at hpc hok hc ⊢
 subst hok hpc
 generalize (s.m.lock th 3).1 = m' at *
 (rcases hd with _ | ⟨l,k⟩) <;> (
  refine lspec tab_ok mix Tryz.func227 (by kernel_rfl) (by rfl) (by rfl) (by rfl) (by rfl) ?_
  (refine go ?_; try exact tt)
  refine Yq (ZB s) [some 12,some 13,some 14,some 15,some 16] rfl rfl (go ?_)
  refine Zu hc [some 13,some 14,some 15,some 16] [] (go ?_)
  refine .mk [(17,768)] ?_
  (refine go ?_; try exact tt))
set_option maxHeartbeats 4000000 in
theorem Zuc (o : IOp) (s : Sto) {i : Nat} {n : PC} (hpc : o.pc.mx = some (i,n)) (hi : i < 3) (hok : o.ok = false) (hf : s.Fits) (hm : 4 ≤ s.m.mtx.length) (hl : (s.m.lock o.th i).2 = true) (hh : ∀ l k,o.hd = some (l,k) → l ≠ [] ∧ k ≤ l.length ∧ k < 10) :
 LSpec Tryz.prog 227 [.p 2 1 0 0,.p 3 1 0 0,.p 4 1 0 0,.p 5 1 0 0] ((0,opR o 12 id1) :: (1,hdD o.hd) :: (nx4 o.pc ++ ZY s 12 14)) 17 (ZuI o.pc) ((0,opR { o with hd:=Zbw o.hd i } 12 mu1) :: (18,hdD (Zbw o.hd i)) :: ZY { s with m:=(s.m.lock o.th i).1 } 12 17) 19:=by
 have hc:=Zmw s.m o.th i (by omega) hf.mem
 rw [hl] at hc
 obtain ⟨th,t,pc,hd,h,e,ok,ef,bl⟩:=o
 dsimp only at hpc hok hc hh ⊢
 subst hok
 generalize (s.m.lock th i).1 = m' at *
 rcases ZfE hpc with ⟨rfl,rfl,_⟩ | ⟨rfl,rfl,_⟩ | ⟨rfl,rfl,_⟩ | ⟨rfl,rfl,_⟩
 case inr.inr.inr=>omega
 all_goals (rcases hd with _ | ⟨l,k⟩)
 all_goals
  refine lspec tab_ok mix Tryz.func227 (by kernel_rfl) (by rfl) (by rfl) (by rfl) (by rfl) ?_
  (refine go ?_; try exact tt)
  refine Yq (ZB s) [some 12,some 13,some 14,some 15,some 16] rfl rfl (go ?_)
  exact Zu hc [some 13,some 14,some 15,some 16] [] (go tt)
 all_goals first
  | (refine .mk [(17, 768), (18, 1472)] ?_
     (refine go ?_; try exact tt))
  | (obtain ⟨h1, h2, h3⟩ := hh l k rfl
     refine cb ⟨by simpa using h1,by simp;omega,by simp;omega⟩ (go ?_)
     refine .mk [(17,768),(18,1472)] (go ?_)
     refine cb (by simp [QF,List.map_take]) ?_
     (refine go ?_; try exact tt))
theorem ulC (o : IOp) (s : Sto) {l : List Int} {k j : Nat} (hpc : o.pc = .undo ∨ o.pc = .put ∨ o.pc = .rel) (hhd : o.hd = some (l,k + 1)) (hlk : l[k]? = some (j : Int)) (hk : k < 10) (hj : j < 4) (hf : s.Fits) (hm : 4 ≤ s.m.mtx.length) :
 LSpec Tryz.prog 230 [.p 0 16 0 0] ((0,opR o 12 id1) :: (1,hdD o.hd) :: ZY s 12 14) 17 (.tup []) ((0,opR { o with hd:=some (l,k) } 12 id1) :: (1,hdD o.hd) :: ZY { s with m:=(s.m.unlock o.th j).1 } 12 17) 18:=by
 have hc:=Zd1 s.m o.th j (by omega) hf.mem
 have hlen : k < l.length:=(List.getElem?_eq_some_iff.1 hlk).1
 obtain ⟨th,t,pc,hd,h,e,ok,ef,bl⟩:=o
 dsimp only at hpc hhd hc ⊢
 subst hhd
 generalize (s.m.unlock th j).1 = m' at *
 generalize (s.m.unlock th j).2 = z at *
 rcases hpc with rfl | rfl | rfl <;> cases ok <;> (
  refine lspec tab_ok mix Tryz.func230 (by kernel_rfl) (by rfl) (by rfl) (by rfl) (by rfl) ?_
  (refine go ?_; try exact tt)
  rw [show ((k + 1 : Nat) : Int) - 1 = (k : Int) by omega]
  refine Yq (ZB s) [some 12,some 13,some 14,some 15,some 16] rfl rfl (go ?_)
  refine atB (show k < k + 1 by omega) (go ?_)
  rw [Nat.zero_add]
  refine Yy hlk (go ?_)
  refine Zu hc [some 13,some 14,some 15,some 16] [] (go ?_)
  refine slB 0 k (by rfl) (by rfl) (by omega) (go ?_)
  refine .mk [(17,1536)] ?_
  (refine go ?_; try exact tt))
theorem ZtP (o : IOp) (s : Sto) {l : List Int} {k : Nat} (hpc : o.pc = .conf) (hhd : o.hd = some (l,k)) (hok : o.ok = false) (hf : s.Fits) (hw : 0 < s.m.words.length) (pc' : PC) (hp' : pc' = if s.m.word 0 ≤ o.t then .arena else .undo) :
 LSpec Tryz.prog 182 [.p 0 16 0 0] ((0,opR o 12 id1) :: ZY s 12 14) 17 (nxV pc' nu1) ((0,opR o 12 id1) :: (Zsz pc' nu1 ++ ZY { s with m:=s.m.load o.th 0 } 12 17)) 29:=by
 have hl:=ZuA o s (.inr ⟨hpc,l,k,hhd⟩) hok hf hw
 obtain ⟨th,t,pc,hd,h,e,ok,ef,bl⟩:=o
 dsimp only at hpc hhd hok hl hp' ⊢
 subst hok hpc hhd
 generalize s.m.load th 0 = m' at *
 generalize s.m.word 0 = w at *
 by_cases hc : w ≤ t
 · rw [decide_eq_true hc] at hl
   rw [if_pos hc] at hp'
   subst hp'
   refine lspec tab_ok mix Tryz.func182 (by kernel_rfl) (by rfl) (by rfl) (by rfl) (by rfl) ?_
   (refine go ?_; try exact tt)
   refine Za hl [some 0,some 1,none,none,none,none,none,none,none,none,none,none,some 12,some 13,some 14,some 15,some 16] [] rfl (go ?_)
   refine Za ZiA [some 0] [] rfl (go ?_)
   refine .mk [(17,256),(19,384),(20,385),(21,386),(22,387)] (go ?_);try exact tt
 · rw [decide_eq_false hc] at hl
   rw [if_neg hc] at hp'
   subst hp'
   refine lspec tab_ok mix Tryz.func182 (by kernel_rfl) (by rfl) (by rfl) (by rfl) (by rfl) ?_
   (refine go ?_; try exact tt)
   refine Za hl [some 0,some 1,none,none,none,none,none,none,none,none,none,none,some 12,some 13,some 14,some 15,some 16] [] rfl (go ?_)
   exact .mk [(17,256),(19,64)] (go tt)
theorem Zug (o : IOp) (s : Sto) {l : List Int} {k j : Nat} (hpc : o.pc = .undo) (hhd : o.hd = some (l,k + 1)) (hok : o.ok = false) (hlk : l[k]? = some (j : Int)) (hk : k < 10) (hj : j < 4) (hf : s.Fits) (hm : 4 ≤ s.m.mtx.length) :
 LSpec Tryz.prog 229 [.p 2 1 0 0] ((0,opR o 12 id1) :: (1,hdD o.hd) :: (2,ZpO o.pc id1) :: ZY s 12 14) 17 (nxV .rungs nu1) ((0,opR { o with hd:=some (l,k) } 12 id1) :: (1,hdD o.hd) :: (Zsz .rungs nu1 ++ ZY { s with m:=(s.m.unlock o.th j).1 } 12 17)) 29:=by
 have hu:=ulC o s (.inl hpc) hhd hlk hk hj hf hm
 obtain ⟨th,t,pc,hd,h,e,ok,ef,bl⟩:=o
 dsimp only at hpc hhd hok hu ⊢
 subst hok hpc hhd
 generalize (s.m.unlock th j).1 = m' at *
 refine lspec tab_ok mix Tryz.func229 (by kernel_rfl) (by rfl) (by rfl) (by rfl) (by rfl) ?_
 (refine go ?_; try exact tt)
 refine Za hu [some 0,some 1,some 2,none,none,none,none,none,none,none,none,none,some 12,some 13,some 14,some 15,some 16] [] rfl (go ?_)
 refine Za ZsU [some 0] [] rfl (go ?_)
 exact .mk [(17,192),(19,320),(20,321),(21,322),(22,323)] (go tt)
def ZuS (pc : PC) (ν : Nat → Nat) : List (Nat × B):=[(ν 6,ZnC pc (cl1 (pO ν))),(ν 7,ZnC pc (cl1 (V.int 3))),(ν 8,ZnC pc (cl1 (fnT ν 6))),(ν 9,ZnC pc (cl1 (fnO 259 ν)))]
theorem ZpU (o : IOp) (s s' : Sto) {l : List Int} {k : Nat} {z : Bool} (hpc : o.pc = .choose) (hhd : o.hd = some (l,k)) (hok : o.ok = false)
 (ha : LSpec Tryz.prog 260 [.p 0 10 0 0,V.int o.th,V.int o.t] (ZE s 2) 5 (V.bool z) (ZE s' 2) 5) (pc' : PC) (hp' : pc' = if z = true then .arena else .bottom) :
 LSpec Tryz.prog 231 [.p 0 16 0 0] ((0,opR o 12 id1) :: ZY s 12 14) 17 (nxV pc' nu1) ((0,opR o 12 id1) :: (Zsz pc' nu1 ++ ZuS pc' nu1 ++ ZY s' 12 14)) 29:=by
 obtain ⟨th,t,pc,hd,h,e,ok,ef,bl⟩:=o
 dsimp only at hpc hhd hok ha hp' ⊢
 subst hok hpc hhd
 cases z with
 | true=>
  rw [if_pos rfl] at hp'
  subst hp'
  refine lspec tab_ok mix Tryz.func231 (by kernel_rfl) (by rfl) (by rfl) (by rfl) (by rfl) ?_
  (refine go ?_; try exact tt)
  refine Zu ha [some 12,some 13,some 14,some 15,some 16] [] (go ?_)
  refine Za ZiA [some 0] [] rfl (go ?_)
  exact .mk [(19,1024),(20,1025),(21,1026),(22,1027)] (go tt)
 | false=>
  rw [if_neg (by decide)] at hp'
  subst hp'
  refine lspec tab_ok mix Tryz.func231 (by kernel_rfl) (by rfl) (by rfl) (by rfl) (by rfl) ?_
  (refine go ?_; try exact tt)
  refine Zu ha [some 12,some 13,some 14,some 15,some 16] [] (go ?_)
  refine Za ZiA [some 0] [] rfl (go ?_)
  refine Za (ZnV 2) [some 0,some 1088,some 1089,some 1090,some 1091] [] rfl (go ?_)
  exact .mk [(23,1088),(24,1089),(25,1090),(26,1091),(19,1152),(20,1153),(21,1154),(22,1155)] (go tt)
def nuA (i : Nat) : Nat:=match i with
 | 10=>27
 | 11=>28
 | i=>i
theorem Ztg (o : IOp) (s s' : Sto) {l : List Int} {k : Nat} {h' : Int} (hpc : o.pc = .alloc) (hhd : o.hd = some (l,k)) (hok : o.ok = false)
 (ha : LSpec Tryz.prog 140 [.p 0 10 0 0,V.int o.th,V.int o.t] (ZE s 2) 5 (.tup [V.int h',V.bool true]) (ZE s' 5) 6) :
 LSpec Tryz.prog 259 [.p 0 16 0 0] ((0,opR o 12 id1) :: ZY s 12 14) 17 (nxV .leave id1) ((0,opR { o with h:=h',ok:=true,eff:=true } 12 nuA) :: (27,cl1 (pO id1)) :: (28,cl1 (V.int h')) :: ZY s' 12 17) 29:=by
 obtain ⟨th,t,pc,hd,h,e,ok,ef,bl⟩:=o
 dsimp only at hpc hhd hok ha ⊢
 subst hok hpc hhd
 refine lspec tab_ok mix Tryz.func259 (by kernel_rfl) (by rfl) (by rfl) (by rfl) (by rfl) ?_
 (refine go ?_; try exact tt)
 refine Zu ha [some 12,some 13,some 14,some 15,some 16] [] (go ?_)
 exact .mk [(17,960),(27,64),(28,1216)] (go tt)
theorem ZnN (o : IOp) (s s' : Sto) {l : List Int} {k : Nat} (hpc : o.pc = .alloc) (hhd : o.hd = some (l,k)) (hok : o.ok = false)
 (ha : LSpec Tryz.prog 140 [.p 0 10 0 0,V.int o.th,V.int o.t] (ZE s 2) 5 (.tup [V.int 0,V.bool false]) (ZE s' 5) 6) :
 LSpec Tryz.prog 259 [.p 0 16 0 0] ((0,opR o 12 id1) :: ZY s 12 14) 17 (nxV .leave id1) ((0,opR { o with e:=10,eff:=true } 12 id1) :: ZY s' 12 17) 18:=by
 obtain ⟨th,t,pc,hd,h,e,ok,ef,bl⟩:=o
 dsimp only at hpc hhd hok ha ⊢
 subst hok hpc hhd
 refine lspec tab_ok mix Tryz.func259 (by kernel_rfl) (by rfl) (by rfl) (by rfl) (by rfl) ?_
 (refine go ?_; try exact tt)
 refine Zu ha [some 12,some 13,some 14,some 15,some 16] [] (go ?_)
 exact .mk [(17,960)] (go tt)
theorem ZrT (o : IOp) (s : Sto) {l : List Int} {k : Nat} (hpc : o.pc = .leave) (hhd : o.hd = some (l,k)) (hf : s.Fits) (hm : 4 ≤ s.m.mtx.length) :
 LSpec Tryz.prog 287 [.p 0 16 0 0] ((0,opR o 12 id1) :: ZY s 12 14) 17 (nxV .put nu1) ((0,opR o 12 id1) :: (Zsz .put nu1 ++ ZY { s with m:=(s.m.unlock o.th 3).1 } 12 17)) 29:=by
 have hc:=Zd1 s.m o.th 3 (by omega) hf.mem
 obtain ⟨th,t,pc,hd,h,e,ok,ef,bl⟩:=o
 dsimp only at hpc hhd hc ⊢
 subst hpc hhd
 generalize (s.m.unlock th 3).1 = m' at *
 generalize (s.m.unlock th 3).2 = z at *
 cases ok <;> (
  refine lspec tab_ok mix Tryz.func287 (by kernel_rfl) (by rfl) (by rfl) (by rfl) (by rfl) ?_
  (refine go ?_; try exact tt)
  refine Yq (ZB s) [some 12,some 13,some 14,some 15,some 16] rfl rfl (go ?_)
  refine Zu hc [some 13,some 14,some 15,some 16] [] (go ?_)
  refine .mk [(17,768),(19,64)] ?_
  (refine go ?_; try exact tt))
theorem Zf8 (o : IOp) (s : Sto) {l : List Int} {k j : Nat} (hpc : o.pc = .put ∨ o.pc = .rel) (hhd : o.hd = some (l,k + 1)) (hlk : l[k]? = some (j : Int)) (hk : k < 10) (hj : j < 4) (hf : s.Fits) (hm : 4 ≤ s.m.mtx.length) (pc' : PC) (hp' : pc' = if k = 0 then .ret else .rel) :
 LSpec Tryz.prog 304 [.p 0 16 0 0] ((0,opR o 12 id1) :: (1,hdD o.hd) :: ZY s 12 14) 17 (nxV pc' id1) ((0,opR { o with hd:=some (l,k) } 12 id1) :: (1,hdD o.hd) :: ZY { s with m:=(s.m.unlock o.th j).1 } 12 17) 18:=by
 have hu:=ulC o s (.inr hpc) hhd hlk hk hj hf hm
 obtain ⟨th,t,pc,hd,h,e,ok,ef,bl⟩:=o
 dsimp only at hpc hhd hu ⊢
 subst hhd
 generalize (s.m.unlock th j).1 = m' at *
 by_cases h0 : k = 0
 · subst h0
   rw [if_pos rfl] at hp'
   subst hp'
   rcases hpc with rfl | rfl <;> cases ok
   · refine lspec tab_ok mix Tryz.func304 (by kernel_rfl) (by rfl) (by rfl) (by rfl) (by rfl) ?_
     (refine go ?_; try exact tt)
     refine Za hu [some 0,some 1,some 2,none,none,none,none,none,none,none,none,none,some 12,some 13,some 14,some 15,some 16] [] rfl (go ?_)
     refine .mk [(17,192)] (go ?_);try exact tt
   · refine lspec tab_ok mix Tryz.func304 (by kernel_rfl) (by rfl) (by rfl) (by rfl) (by rfl) ?_
     (refine go ?_; try exact tt)
     refine Za hu [some 0,some 1,some 2,none,none,none,none,none,none,none,some 10,some 11,some 12,some 13,some 14,some 15,some 16] [] rfl (go ?_)
     refine .mk [(17,192)] (go ?_);try exact tt
   · refine lspec tab_ok mix Tryz.func304 (by kernel_rfl) (by rfl) (by rfl) (by rfl) (by rfl) ?_
     (refine go ?_; try exact tt)
     refine Za hu [some 0,some 1,none,none,none,none,none,none,none,none,none,none,some 12,some 13,some 14,some 15,some 16] [] rfl (go ?_)
     refine .mk [(17,192)] (go ?_);try exact tt
   · refine lspec tab_ok mix Tryz.func304 (by kernel_rfl) (by rfl) (by rfl) (by rfl) (by rfl) ?_
     (refine go ?_; try exact tt)
     refine Za hu [some 0,some 1,none,none,none,none,none,none,none,none,some 10,some 11,some 12,some 13,some 14,some 15,some 16] [] rfl (go ?_)
     refine .mk [(17,192)] (go ?_);try exact tt
 · rw [if_neg h0] at hp'
   subst hp'
   rcases hpc with rfl | rfl <;> cases ok
   · refine lspec tab_ok mix Tryz.func304 (by kernel_rfl) (by rfl) (by rfl) (by rfl) (by rfl) ?_
     (refine go ?_; try exact tt)
     refine Za hu [some 0,some 1,some 2,none,none,none,none,none,none,none,none,none,some 12,some 13,some 14,some 15,some 16] [] rfl (go ?_)
     rw [decide_eq_false (show ¬ (k : Int) = 0 by omega)]
     (refine go ?_; try exact tt)
     refine .mk [(17,192)] (go ?_);try exact tt
   · refine lspec tab_ok mix Tryz.func304 (by kernel_rfl) (by rfl) (by rfl) (by rfl) (by rfl) ?_
     (refine go ?_; try exact tt)
     refine Za hu [some 0,some 1,some 2,none,none,none,none,none,none,none,some 10,some 11,some 12,some 13,some 14,some 15,some 16] [] rfl (go ?_)
     rw [decide_eq_false (show ¬ (k : Int) = 0 by omega)]
     (refine go ?_; try exact tt)
     refine .mk [(17,192)] (go ?_);try exact tt
   · refine lspec tab_ok mix Tryz.func304 (by kernel_rfl) (by rfl) (by rfl) (by rfl) (by rfl) ?_
     (refine go ?_; try exact tt)
     refine Za hu [some 0,some 1,none,none,none,none,none,none,none,none,none,none,some 12,some 13,some 14,some 15,some 16] [] rfl (go ?_)
     rw [decide_eq_false (show ¬ (k : Int) = 0 by omega)]
     (refine go ?_; try exact tt)
     refine .mk [(17,192)] (go ?_);try exact tt
   · refine lspec tab_ok mix Tryz.func304 (by kernel_rfl) (by rfl) (by rfl) (by rfl) (by rfl) ?_
     (refine go ?_; try exact tt)
     refine Za hu [some 0,some 1,none,none,none,none,none,none,none,none,some 10,some 11,some 12,some 13,some 14,some 15,some 16] [] rfl (go ?_)
     rw [decide_eq_false (show ¬ (k : Int) = 0 by omega)]
     (refine go ?_; try exact tt)
     exact .mk [(17,192)] (go tt)
theorem ZpT : PSpec Tryz.prog 101 [] (.tup []):=by
 refine pspec tab_ok mix Tryz.func101 (by kernel_rfl) rfl rfl ?_
 (refine go ?_; try exact tt)
 exact .same rfl
theorem Zt8 (o : IOp) (s s' : Sto) {l : List Int} {k i : Nat} (hpc : o.pc = .put) (hhd : o.hd = some (l,k)) (hok : o.ok = true) (hi : ZM o.h = (i : Int))
 (hp : LSpec Tryz.prog 142 [.p 0 10 0 0,V.int o.th,V.int i] (ZE s 2) 5 (.tup []) (ZE s' 2) 5) :
 LSpec Tryz.prog 286 [.p 10 1 0 0,.p 11 1 0 0] ((0,opR o 12 id1) :: (10,cl1 (pO id1)) :: (11,cl1 (V.int o.h)) :: ZY s 12 14) 17 (.tup []) ((0,opR o 12 id1) :: (10,cl1 (pO id1)) :: (11,cl1 (V.int o.h)) :: ZY s' 12 14) 17:=by
 have hs:=Zs4 o.h
 rw [hi] at hs
 obtain ⟨th,t,pc,hd,h,e,ok,ef,bl⟩:=o
 dsimp only at hpc hhd hok hp hs ⊢
 subst hpc hhd hok
 refine lspec tab_ok mix Tryz.func286 (by kernel_rfl) (by rfl) (by rfl) (by rfl) (by rfl) ?_
 (refine go ?_; try exact tt)
 refine Zn hs (go ?_)
 refine Zu hp [some 12,some 13,some 14,some 15,some 16] [] (go ?_)
 exact .mk [] (go tt)
theorem Zu5 (o : IOp) (s s' : Sto) {l : List Int} {k i j : Nat} (hpc : o.pc = .put) (hhd : o.hd = some (l,k + 1)) (hok : o.ok = true) (hi : ZM o.h = (i : Int))
 (hp : LSpec Tryz.prog 142 [.p 0 10 0 0,V.int o.th,V.int i] (ZE s 2) 5 (.tup []) (ZE s' 2) 5) (hlk : l[k]? = some (j : Int)) (hk : k < 10) (hj : j < 4) (hf : s'.Fits) (hm : 4 ≤ s'.m.mtx.length) (pc' : PC) (hp' : pc' = if k = 0 then .ret else .rel) :
 LSpec Tryz.prog 303 [.p 2 1 0 0] ((0,opR o 12 id1) :: (1,hdD o.hd) :: (2,ZpO o.pc id1) :: (10,cl1 (pO id1)) :: (11,cl1 (V.int o.h)) :: ZY s 12 14) 17 (nxV pc' id1)
  ((0,opR { o with hd:=some (l,k) } 12 id1) :: (1,hdD o.hd) :: (10,cl1 (pO id1)) :: (11,cl1 (V.int o.h)) :: ZY { s' with m:=(s'.m.unlock o.th j).1 } 12 17) 18:=by
 have h1:=Zt8 o s s' hpc hhd hok hi hp
 have h2:=Zf8 o s' (.inl hpc) hhd hlk hk hj hf hm pc' hp'
 obtain ⟨th,t,pc,hd,h,e,ok,ef,bl⟩:=o
 dsimp only at hpc hhd hok h1 h2 ⊢
 subst hpc hhd hok
 generalize (s'.m.unlock th j).1 = m' at *
 by_cases h0 : k = 0
 · rw [if_pos h0] at hp'
   subst hp'
   refine lspec tab_ok mix Tryz.func303 (by kernel_rfl) (by rfl) (by rfl) (by rfl) (by rfl) ?_
   (refine go ?_; try exact tt)
   refine Za h1 [some 0,some 1,some 2,none,none,none,none,none,none,none,some 10,some 11,some 12,some 13,some 14,some 15,some 16] [] rfl (go ?_)
   refine Za h2 [some 0,some 1,some 2,none,none,none,none,none,none,none,some 10,some 11,some 12,some 13,some 14,some 15,some 16] [] rfl (go ?_)
   refine .mk [(17,512)] (go ?_);try exact tt
 · rw [if_neg h0] at hp'
   subst hp'
   refine lspec tab_ok mix Tryz.func303 (by kernel_rfl) (by rfl) (by rfl) (by rfl) (by rfl) ?_
   (refine go ?_; try exact tt)
   refine Za h1 [some 0,some 1,some 2,none,none,none,none,none,none,none,some 10,some 11,some 12,some 13,some 14,some 15,some 16] [] rfl (go ?_)
   refine Za h2 [some 0,some 1,some 2,none,none,none,none,none,none,none,some 10,some 11,some 12,some 13,some 14,some 15,some 16] [] rfl (go ?_)
   exact .mk [(17,512)] (go tt)
theorem ZrQ (o : IOp) (s : Sto) {l : List Int} {k j : Nat} (hpc : o.pc = .put) (hhd : o.hd = some (l,k + 1)) (hok : o.ok = false)
 (hlk : l[k]? = some (j : Int)) (hk : k < 10) (hj : j < 4) (hf : s.Fits) (hm : 4 ≤ s.m.mtx.length) (pc' : PC) (hp' : pc' = if k = 0 then .ret else .rel) :
 LSpec Tryz.prog 303 [.p 2 1 0 0] ((0,opR o 12 id1) :: (1,hdD o.hd) :: (2,ZpO o.pc id1) :: ZY s 12 14) 17 (nxV pc' id1)
  ((0,opR { o with hd:=some (l,k) } 12 id1) :: (1,hdD o.hd) :: ZY { s with m:=(s.m.unlock o.th j).1 } 12 17) 18:=by
 have h2:=Zf8 o s (.inl hpc) hhd hlk hk hj hf hm pc' hp'
 obtain ⟨th,t,pc,hd,h,e,ok,ef,bl⟩:=o
 dsimp only at hpc hhd hok h2 ⊢
 subst hpc hhd hok
 generalize (s.m.unlock th j).1 = m' at *
 by_cases h0 : k = 0
 · rw [if_pos h0] at hp'
   subst hp'
   refine lspec tab_ok mix Tryz.func303 (by kernel_rfl) (by rfl) (by rfl) (by rfl) (by rfl) ?_
   (refine go ?_; try exact tt)
   refine Zh ZpT (go ?_)
   refine Za h2 [some 0,some 1,some 2,none,none,none,none,none,none,none,none,none,some 12,some 13,some 14,some 15,some 16] [] rfl (go ?_)
   refine .mk [(17,512)] (go ?_);try exact tt
 · rw [if_neg h0] at hp'
   subst hp'
   refine lspec tab_ok mix Tryz.func303 (by kernel_rfl) (by rfl) (by rfl) (by rfl) (by rfl) ?_
   (refine go ?_; try exact tt)
   refine Zh ZpT (go ?_)
   refine Za h2 [some 0,some 1,some 2,none,none,none,none,none,none,none,none,none,some 12,some 13,some 14,some 15,some 16] [] rfl (go ?_)
   exact .mk [(17,512)] (go tt)
set_option maxHeartbeats 4000000
abbrev Zap (o : IOp) (s : Sto) (b : Bool) (o' : IOp) (s' : Sto) : Prop:=LSpec Tryz.prog 48 [.p 0 16 0 0] (iB0 o s) 17 (V.bool b) (iB1 o' s') 29
abbrev IOp.cl (o : IOp) : IOp:={ o with eff:=false,blk:=false }
theorem Zst (o : IOp) (s : Sto) (hpc : o.pc = .start) (hhd : o.hd = none) (hok : o.ok = false) (he : o.e = 0 ∧ o.h = 0) (ht : o.t < 0 ∨ 1152921504606846976 < o.t) : Zap o s true { o with pc:=.ret,e:=1,eff:=true,blk:=false } s:=by
 have hc:=Zlx o.cl s hpc hhd hok ht
 obtain ⟨th,t,pc,hd,h,e,ok,ef,bl⟩:=o
 obtain ⟨he1,he2⟩:=he
 dsimp only [IOp.cl] at hpc hhd hok ht hc he1 he2 ⊢
 subst hok hpc hhd he1 he2
 · refine lspec tab_ok mix Tryz.func48 (by kernel_rfl) (by rfl) (by rfl) (by rfl) (by rfl) ?_
   (refine go ?_; try exact tt)
   refine Za hc [some 0,none,none,none,none,none,none,none,none,none,none,none,some 12,some 13,some 14,some 15,some 16] [] rfl (go ?_)
   exact .mk [(17,14)] (go tt)
theorem Zpr (o : IOp) (s : Sto) (hpc : o.pc = .start) (hhd : o.hd = none) (hok : o.ok = false) (ht : ¬ (o.t < 0 ∨ 1152921504606846976 < o.t)) (hf : s.Fits) (hw : 0 < s.m.words.length) (pc' : PC) (hp' : pc' = if s.m.word 0 ≤ o.t then .top else .rungs) : Zap o s false { o with pc:=pc',eff:=false,blk:=false } { s with m:=s.m.load o.th 0 }:=by
 have hc:=Ztf o.cl s hpc hhd hok ht hf hw pc' hp'
 have hor : pc' = .top ∨ pc' = .rungs:=by rw [hp'];split <;> simp
 obtain ⟨th,t,pc,hd,h,e,ok,ef,bl⟩:=o
 dsimp only [IOp.cl] at hpc hhd hok ht hc ⊢
 clear hp'
 subst hok hpc hhd
 generalize s.m.load th 0 = m' at *
 rcases hor with rfl | rfl
 · refine lspec tab_ok mix Tryz.func48 (by kernel_rfl) (by rfl) (by rfl) (by rfl) (by rfl) ?_
   (refine go ?_; try exact tt)
   refine Za hc [some 0,none,none,none,none,none,none,none,none,none,none,none,some 12,some 13,some 14,some 15,some 16] [] rfl (go ?_)
   refine .mk [(17,960),(19,962),(20,963),(21,964),(22,965)] (go ?_);try exact tt
 · refine lspec tab_ok mix Tryz.func48 (by kernel_rfl) (by rfl) (by rfl) (by rfl) (by rfl) ?_
   (refine go ?_; try exact tt)
   refine Za hc [some 0,none,none,none,none,none,none,none,none,none,none,none,some 12,some 13,some 14,some 15,some 16] [] rfl (go ?_)
   exact .mk [(17,960),(19,962),(20,963),(21,964),(22,965)] (go tt)
theorem Zuw (o : IOp) (s : Sto) {i : Nat} {n : PC} (hpc : o.pc.mx = some (i,n)) (hok : o.ok = false) (hf : s.Fits) (hm : 4 ≤ s.m.mtx.length) (hl : (s.m.lock o.th i).2 = false) : Zap o s false { o with eff:=false,blk:=true } { s with m:=(s.m.lock o.th i).1 }:=by
 have hc:=Zui o.cl s hpc hok hf hm hl
 obtain ⟨th,t,pc,hd,h,e,ok,ef,bl⟩:=o
 dsimp only [IOp.cl] at hpc hok hc ⊢
 subst hok
 generalize (s.m.lock th i).1 = m' at *
 rcases ZfE hpc with ⟨rfl,rfl,_⟩ | ⟨rfl,rfl,_⟩ | ⟨rfl,rfl,_⟩ | ⟨rfl,rfl,_⟩ <;> (rcases hd with _ | ⟨l,k⟩)
 · refine lspec tab_ok mix Tryz.func48 (by kernel_rfl) (by rfl) (by rfl) (by rfl) (by rfl) ?_
   (refine go ?_; try exact tt)
   refine Za hc [some 0,none,some 2,some 3,some 4,some 5,none,none,none,none,none,none,some 12,some 13,some 14,some 15,some 16] [] rfl (go ?_)
   refine .mk [(17,960),(19,2),(20,3),(21,4),(22,5)] (go ?_);try exact tt
 · refine lspec tab_ok mix Tryz.func48 (by kernel_rfl) (by rfl) (by rfl) (by rfl) (by rfl) ?_
   (refine go ?_; try exact tt)
   refine Za hc [some 0,some 1,some 2,some 3,some 4,some 5,none,none,none,none,none,none,some 12,some 13,some 14,some 15,some 16] [] rfl (go ?_)
   refine .mk [(17,960),(18,1),(19,2),(20,3),(21,4),(22,5)] (go ?_);try exact tt
 · refine lspec tab_ok mix Tryz.func48 (by kernel_rfl) (by rfl) (by rfl) (by rfl) (by rfl) ?_
   (refine go ?_; try exact tt)
   refine Za hc [some 0,none,some 2,some 3,some 4,some 5,none,none,none,none,none,none,some 12,some 13,some 14,some 15,some 16] [] rfl (go ?_)
   refine .mk [(17,960),(19,2),(20,3),(21,4),(22,5)] (go ?_);try exact tt
 · refine lspec tab_ok mix Tryz.func48 (by kernel_rfl) (by rfl) (by rfl) (by rfl) (by rfl) ?_
   (refine go ?_; try exact tt)
   refine Za hc [some 0,some 1,some 2,some 3,some 4,some 5,none,none,none,none,none,none,some 12,some 13,some 14,some 15,some 16] [] rfl (go ?_)
   refine .mk [(17,960),(18,1),(19,2),(20,3),(21,4),(22,5)] (go ?_);try exact tt
 · refine lspec tab_ok mix Tryz.func48 (by kernel_rfl) (by rfl) (by rfl) (by rfl) (by rfl) ?_
   (refine go ?_; try exact tt)
   refine Za hc [some 0,none,some 2,some 3,some 4,some 5,some 6,some 7,some 8,some 9,none,none,some 12,some 13,some 14,some 15,some 16] [] rfl (go ?_)
   refine .mk [(17,960),(19,2),(20,3),(21,4),(22,5),(23,6),(24,7),(25,8),(26,9)] (go ?_);try exact tt
 · refine lspec tab_ok mix Tryz.func48 (by kernel_rfl) (by rfl) (by rfl) (by rfl) (by rfl) ?_
   (refine go ?_; try exact tt)
   refine Za hc [some 0,some 1,some 2,some 3,some 4,some 5,some 6,some 7,some 8,some 9,none,none,some 12,some 13,some 14,some 15,some 16] [] rfl (go ?_)
   refine .mk [(17,960),(18,1),(19,2),(20,3),(21,4),(22,5),(23,6),(24,7),(25,8),(26,9)] (go ?_);try exact tt
 · refine lspec tab_ok mix Tryz.func48 (by kernel_rfl) (by rfl) (by rfl) (by rfl) (by rfl) ?_
   (refine go ?_; try exact tt)
   refine Za hc [some 0,none,some 2,some 3,some 4,some 5,none,none,none,none,none,none,some 12,some 13,some 14,some 15,some 16] [] rfl (go ?_)
   refine .mk [(17,960),(19,2),(20,3),(21,4),(22,5)] (go ?_);try exact tt
 · refine lspec tab_ok mix Tryz.func48 (by kernel_rfl) (by rfl) (by rfl) (by rfl) (by rfl) ?_
   (refine go ?_; try exact tt)
   refine Za hc [some 0,some 1,some 2,some 3,some 4,some 5,none,none,none,none,none,none,some 12,some 13,some 14,some 15,some 16] [] rfl (go ?_)
   exact .mk [(17,960),(18,1),(19,2),(20,3),(21,4),(22,5)] (go tt)
theorem ZoY (o : IOp) (s : Sto) (hpc : o.pc = .arena) (hok : o.ok = false) (hf : s.Fits) (hm : 4 ≤ s.m.mtx.length) (hl : (s.m.lock o.th 3).2 = true) : Zap o s false { o with pc:=.alloc,eff:=false,blk:=false } { s with m:=(s.m.lock o.th 3).1 }:=by
 have hc:=Zog o.cl s hpc hok hf hm hl
 obtain ⟨th,t,pc,hd,h,e,ok,ef,bl⟩:=o
 dsimp only [IOp.cl] at hpc hok hc ⊢
 subst hok hpc
 generalize (s.m.lock th 3).1 = m' at *
 rcases hd with _ | ⟨l,k⟩
 · refine lspec tab_ok mix Tryz.func48 (by kernel_rfl) (by rfl) (by rfl) (by rfl) (by rfl) ?_
   (refine go ?_; try exact tt)
   refine Za hc [some 0,none,some 2,some 3,some 4,some 5,none,none,none,none,none,none,some 12,some 13,some 14,some 15,some 16] [] rfl (go ?_)
   refine .mk [(17,960)] (go ?_);try exact tt
 · refine lspec tab_ok mix Tryz.func48 (by kernel_rfl) (by rfl) (by rfl) (by rfl) (by rfl) ?_
   (refine go ?_; try exact tt)
   refine Za hc [some 0,some 1,some 2,some 3,some 4,some 5,none,none,none,none,none,none,some 12,some 13,some 14,some 15,some 16] [] rfl (go ?_)
   exact .mk [(17,960),(18,1)] (go tt)
theorem Zq7 (o : IOp) (s : Sto) {i : Nat} {n : PC} (hpc : o.pc.mx = some (i,n)) (hi : i < 3) (hok : o.ok = false) (hf : s.Fits) (hm : 4 ≤ s.m.mtx.length) (hl : (s.m.lock o.th i).2 = true) (hh : ∀ l k,o.hd = some (l,k) → l ≠ [] ∧ k ≤ l.length ∧ k < 10) : Zap o s false { o with pc:=n,hd:=Zbw o.hd i,eff:=false,blk:=false } { s with m:=(s.m.lock o.th i).1 }:=by
 have hc:=Zuc o.cl s hpc hi hok hf hm hl hh
 obtain ⟨th,t,pc,hd,h,e,ok,ef,bl⟩:=o
 dsimp only [IOp.cl] at hpc hok hc ⊢
 subst hok
 generalize (s.m.lock th i).1 = m' at *
 rcases ZfE hpc with ⟨rfl,rfl,rfl⟩ | ⟨rfl,rfl,rfl⟩ | ⟨rfl,rfl,rfl⟩ | ⟨rfl,rfl,rfl⟩
 case inr.inr.inr=>omega
 all_goals (rcases hd with _ | ⟨l,k⟩)
 · refine lspec tab_ok mix Tryz.func48 (by kernel_rfl) (by rfl) (by rfl) (by rfl) (by rfl) ?_
   (refine go ?_; try exact tt)
   refine Za hc [some 0,none,some 2,some 3,some 4,some 5,none,none,none,none,none,none,some 12,some 13,some 14,some 15,some 16] [] rfl (go ?_)
   refine .mk [(17,960),(18,961)] (go ?_);try exact tt
 · refine lspec tab_ok mix Tryz.func48 (by kernel_rfl) (by rfl) (by rfl) (by rfl) (by rfl) ?_
   (refine go ?_; try exact tt)
   refine Za hc [some 0,some 1,some 2,some 3,some 4,some 5,none,none,none,none,none,none,some 12,some 13,some 14,some 15,some 16] [] rfl (go ?_)
   refine .mk [(17,960),(18,961)] (go ?_);try exact tt
 · refine lspec tab_ok mix Tryz.func48 (by kernel_rfl) (by rfl) (by rfl) (by rfl) (by rfl) ?_
   (refine go ?_; try exact tt)
   refine Za hc [some 0,none,some 2,some 3,some 4,some 5,none,none,none,none,none,none,some 12,some 13,some 14,some 15,some 16] [] rfl (go ?_)
   refine .mk [(17,960),(18,961)] (go ?_);try exact tt
 · refine lspec tab_ok mix Tryz.func48 (by kernel_rfl) (by rfl) (by rfl) (by rfl) (by rfl) ?_
   (refine go ?_; try exact tt)
   refine Za hc [some 0,some 1,some 2,some 3,some 4,some 5,none,none,none,none,none,none,some 12,some 13,some 14,some 15,some 16] [] rfl (go ?_)
   refine .mk [(17,960),(18,961)] (go ?_);try exact tt
 · refine lspec tab_ok mix Tryz.func48 (by kernel_rfl) (by rfl) (by rfl) (by rfl) (by rfl) ?_
   (refine go ?_; try exact tt)
   refine Za hc [some 0,none,some 2,some 3,some 4,some 5,some 6,some 7,some 8,some 9,none,none,some 12,some 13,some 14,some 15,some 16] [] rfl (go ?_)
   refine .mk [(17,960),(18,961),(19,6),(20,7),(21,8),(22,9)] (go ?_);try exact tt
 · refine lspec tab_ok mix Tryz.func48 (by kernel_rfl) (by rfl) (by rfl) (by rfl) (by rfl) ?_
   (refine go ?_; try exact tt)
   refine Za hc [some 0,some 1,some 2,some 3,some 4,some 5,some 6,some 7,some 8,some 9,none,none,some 12,some 13,some 14,some 15,some 16] [] rfl (go ?_)
   exact .mk [(17,960),(18,961),(19,6),(20,7),(21,8),(22,9)] (go tt)
theorem Zrt (o : IOp) (s : Sto) {l : List Int} {k : Nat} (hpc : o.pc = .conf) (hhd : o.hd = some (l,k)) (hok : o.ok = false) (hf : s.Fits) (hw : 0 < s.m.words.length) (pc' : PC) (hp' : pc' = if s.m.word 0 ≤ o.t then .arena else .undo) : Zap o s false { o with pc:=pc',eff:=false,blk:=false } { s with m:=s.m.load o.th 0 }:=by
 have hc:=ZtP o.cl s hpc hhd hok hf hw pc' hp'
 have hor : pc' = .arena ∨ pc' = .undo:=by rw [hp'];split <;> simp
 obtain ⟨th,t,pc,hd,h,e,ok,ef,bl⟩:=o
 dsimp only [IOp.cl] at hpc hhd hok hc ⊢
 clear hp'
 subst hok hpc hhd
 generalize s.m.load th 0 = m' at *
 rcases hor with rfl | rfl
 · refine lspec tab_ok mix Tryz.func48 (by kernel_rfl) (by rfl) (by rfl) (by rfl) (by rfl) ?_
   (refine go ?_; try exact tt)
   refine Za hc [some 0,some 1,none,none,none,none,none,none,none,none,none,none,some 12,some 13,some 14,some 15,some 16] [] rfl (go ?_)
   refine .mk [(17,960),(19,962),(20,963),(21,964),(22,965),(18,1)] (go ?_);try exact tt
 · refine lspec tab_ok mix Tryz.func48 (by kernel_rfl) (by rfl) (by rfl) (by rfl) (by rfl) ?_
   (refine go ?_; try exact tt)
   refine Za hc [some 0,some 1,none,none,none,none,none,none,none,none,none,none,some 12,some 13,some 14,some 15,some 16] [] rfl (go ?_)
   exact .mk [(17,960),(19,962),(20,963),(21,964),(22,965),(18,1)] (go tt)
theorem Zqi (o : IOp) (s : Sto) {l : List Int} {k j : Nat} (hpc : o.pc = .undo) (hhd : o.hd = some (l,k + 1)) (hok : o.ok = false) (hlk : l[k]? = some (j : Int)) (hk : k < 10) (hj : j < 4) (hf : s.Fits) (hm : 4 ≤ s.m.mtx.length) : Zap o s false { o with pc:=.rungs,hd:=some (l,k),eff:=false,blk:=false } { s with m:=(s.m.unlock o.th j).1 }:=by
 have hc:=Zug o.cl s hpc hhd hok hlk hk hj hf hm
 obtain ⟨th,t,pc,hd,h,e,ok,ef,bl⟩:=o
 dsimp only [IOp.cl] at hpc hhd hok hc ⊢
 subst hok hpc hhd
 generalize (s.m.unlock th j).1 = m' at *
 · refine lspec tab_ok mix Tryz.func48 (by kernel_rfl) (by rfl) (by rfl) (by rfl) (by rfl) ?_
   (refine go ?_; try exact tt)
   refine Za hc [some 0,some 1,some 2,none,none,none,none,none,none,none,none,none,some 12,some 13,some 14,some 15,some 16] [] rfl (go ?_)
   exact .mk [(17,960),(19,962),(20,963),(21,964),(22,965),(18,1)] (go tt)
theorem ZkH (o : IOp) (s : Sto) (s' : Sto) {l : List Int} {k : Nat} {z : Bool} (hpc : o.pc = .choose) (hhd : o.hd = some (l,k)) (hok : o.ok = false)
 (ha : LSpec Tryz.prog 260 [.p 0 10 0 0,V.int o.th,V.int o.t] (ZE s 2) 5 (V.bool z) (ZE s' 2) 5) (pc' : PC) (hp' : pc' = if z = true then .arena else .bottom) : Zap o s false { o with pc:=pc',eff:=false,blk:=false } s':=by
 have hc:=ZpU o.cl s s' hpc hhd hok ha pc' hp'
 have hor : pc' = .arena ∨ pc' = .bottom:=by rw [hp'];split <;> simp
 obtain ⟨th,t,pc,hd,h,e,ok,ef,bl⟩:=o
 dsimp only [IOp.cl] at hpc hhd hok hc ⊢
 clear hp' ha
 subst hok hpc hhd
 rcases hor with rfl | rfl
 · refine lspec tab_ok mix Tryz.func48 (by kernel_rfl) (by rfl) (by rfl) (by rfl) (by rfl) ?_
   (refine go ?_; try exact tt)
   refine Za hc [some 0,some 1,none,none,none,none,none,none,none,none,none,none,some 12,some 13,some 14,some 15,some 16] [] rfl (go ?_)
   refine .mk [(19,962),(20,963),(21,964),(22,965),(17,14),(18,1)] (go ?_);try exact tt
 · refine lspec tab_ok mix Tryz.func48 (by kernel_rfl) (by rfl) (by rfl) (by rfl) (by rfl) ?_
   (refine go ?_; try exact tt)
   refine Za hc [some 0,some 1,none,none,none,none,none,none,none,none,none,none,some 12,some 13,some 14,some 15,some 16] [] rfl (go ?_)
   exact .mk [(19,962),(20,963),(21,964),(22,965),(23,966),(24,967),(25,968),(26,969),(17,14),(18,1)] (go tt)
theorem Zpg (o : IOp) (s : Sto) (s' : Sto) {l : List Int} {k : Nat} {h' : Int} (hpc : o.pc = .alloc) (hhd : o.hd = some (l,k)) (hok : o.ok = false)
 (ha : LSpec Tryz.prog 140 [.p 0 10 0 0,V.int o.th,V.int o.t] (ZE s 2) 5 (.tup [V.int h',V.bool true]) (ZE s' 5) 6) : Zap o s false { o with pc:=.leave,h:=h',ok:=true,eff:=true,blk:=false } s':=by
 have hc:=Ztg o.cl s s' hpc hhd hok ha
 obtain ⟨th,t,pc,hd,h,e,ok,ef,bl⟩:=o
 dsimp only [IOp.cl] at hpc hhd hok hc ⊢
 clear ha
 subst hok hpc hhd
 · refine lspec tab_ok mix Tryz.func48 (by kernel_rfl) (by rfl) (by rfl) (by rfl) (by rfl) ?_
   (refine go ?_; try exact tt)
   refine Za hc [some 0,some 1,none,none,none,none,none,none,none,none,none,none,some 12,some 13,some 14,some 15,some 16] [] rfl (go ?_)
   exact .mk [(17,960),(27,970),(28,971),(18,1)] (go tt)
theorem Zrm (o : IOp) (s : Sto) (s' : Sto) {l : List Int} {k : Nat} (hpc : o.pc = .alloc) (hhd : o.hd = some (l,k)) (hok : o.ok = false)
 (ha : LSpec Tryz.prog 140 [.p 0 10 0 0,V.int o.th,V.int o.t] (ZE s 2) 5 (.tup [V.int 0,V.bool false]) (ZE s' 5) 6) : Zap o s false { o with pc:=.leave,e:=10,eff:=true,blk:=false } s':=by
 have hc:=ZnN o.cl s s' hpc hhd hok ha
 obtain ⟨th,t,pc,hd,h,e,ok,ef,bl⟩:=o
 dsimp only [IOp.cl] at hpc hhd hok hc ⊢
 clear ha
 subst hok hpc hhd
 · refine lspec tab_ok mix Tryz.func48 (by kernel_rfl) (by rfl) (by rfl) (by rfl) (by rfl) ?_
   (refine go ?_; try exact tt)
   refine Za hc [some 0,some 1,none,none,none,none,none,none,none,none,none,none,some 12,some 13,some 14,some 15,some 16] [] rfl (go ?_)
   exact .mk [(17,960),(18,1)] (go tt)
theorem ZfS (o : IOp) (s : Sto) {l : List Int} {k : Nat} (hpc : o.pc = .leave) (hhd : o.hd = some (l,k)) (hf : s.Fits) (hm : 4 ≤ s.m.mtx.length) : Zap o s false { o with pc:=.put,eff:=false,blk:=false } { s with m:=(s.m.unlock o.th 3).1 }:=by
 have hc:=ZrT o.cl s hpc hhd hf hm
 obtain ⟨th,t,pc,hd,h,e,ok,ef,bl⟩:=o
 dsimp only [IOp.cl] at hpc hhd hc ⊢
 subst hpc hhd
 generalize (s.m.unlock th 3).1 = m' at *
 cases ok
 · refine lspec tab_ok mix Tryz.func48 (by kernel_rfl) (by rfl) (by rfl) (by rfl) (by rfl) ?_
   (refine go ?_; try exact tt)
   refine Za hc [some 0,some 1,none,none,none,none,none,none,none,none,none,none,some 12,some 13,some 14,some 15,some 16] [] rfl (go ?_)
   refine .mk [(17,960),(19,962),(18,1)] (go ?_);try exact tt
 · refine lspec tab_ok mix Tryz.func48 (by kernel_rfl) (by rfl) (by rfl) (by rfl) (by rfl) ?_
   (refine go ?_; try exact tt)
   refine Za hc [some 0,some 1,none,none,none,none,none,none,none,none,some 10,some 11,some 12,some 13,some 14,some 15,some 16] [] rfl (go ?_)
   exact .mk [(17,960),(19,962),(18,1),(27,10),(28,11)] (go tt)
theorem Zsc (o : IOp) (s : Sto) (s' : Sto) {l : List Int} {k i j : Nat} (hpc : o.pc = .put) (hhd : o.hd = some (l,k + 1)) (hok : o.ok = true) (hi : ZM o.h = (i : Int))
 (hp : LSpec Tryz.prog 142 [.p 0 10 0 0,V.int o.th,V.int i] (ZE s 2) 5 (.tup []) (ZE s' 2) 5) (hlk : l[k]? = some (j : Int)) (hk : k < 10) (hj : j < 4) (hf : s'.Fits) (hm : 4 ≤ s'.m.mtx.length) (pc' : PC) (hp' : pc' = if k = 0 then .ret else .rel) : Zap o s (Zor pc') { o with pc:=pc',hd:=some (l,k),eff:=false,blk:=false } { s' with m:=(s'.m.unlock o.th j).1 }:=by
 have hc:=Zu5 o.cl s s' hpc hhd hok hi hp hlk hk hj hf hm pc' hp'
 have hor : (k = 0 ∧ pc' = .ret) ∨ (pc' = .rel ∧ k ≠ 0):=by rw [hp'];split <;> simp_all
 obtain ⟨th,t,pc,hd,h,e,ok,ef,bl⟩:=o
 dsimp only [IOp.cl] at hpc hhd hok hc ⊢
 clear hp' hp
 subst hpc hhd hok
 generalize (s'.m.unlock th j).1 = m' at *
 rcases hor with ⟨rfl,rfl⟩ | ⟨rfl,_⟩
 · refine lspec tab_ok mix Tryz.func48 (by kernel_rfl) (by rfl) (by rfl) (by rfl) (by rfl) ?_
   (refine go ?_; try exact tt)
   refine Za hc [some 0,some 1,some 2,none,none,none,none,none,none,none,some 10,some 11,some 12,some 13,some 14,some 15,some 16] [] rfl (go ?_)
   refine .mk [(17,960),(18,1),(27,10),(28,11)] (go ?_);try exact tt
 · refine lspec tab_ok mix Tryz.func48 (by kernel_rfl) (by rfl) (by rfl) (by rfl) (by rfl) ?_
   (refine go ?_; try exact tt)
   refine Za hc [some 0,some 1,some 2,none,none,none,none,none,none,none,some 10,some 11,some 12,some 13,some 14,some 15,some 16] [] rfl (go ?_)
   exact .mk [(17,960),(18,1),(27,10),(28,11)] (go tt)
theorem ZoH (o : IOp) (s : Sto) {l : List Int} {k j : Nat} (hpc : o.pc = .put) (hhd : o.hd = some (l,k + 1)) (hok : o.ok = false) (hlk : l[k]? = some (j : Int)) (hk : k < 10) (hj : j < 4) (hf : s.Fits) (hm : 4 ≤ s.m.mtx.length) (pc' : PC) (hp' : pc' = if k = 0 then .ret else .rel) : Zap o s (Zor pc') { o with pc:=pc',hd:=some (l,k),eff:=false,blk:=false } { s with m:=(s.m.unlock o.th j).1 }:=by
 have hc:=ZrQ o.cl s hpc hhd hok hlk hk hj hf hm pc' hp'
 have hor : (k = 0 ∧ pc' = .ret) ∨ (pc' = .rel ∧ k ≠ 0):=by rw [hp'];split <;> simp_all
 obtain ⟨th,t,pc,hd,h,e,ok,ef,bl⟩:=o
 dsimp only [IOp.cl] at hpc hhd hok hc ⊢
 clear hp'
 subst hpc hhd hok
 generalize (s.m.unlock th j).1 = m' at *
 rcases hor with ⟨rfl,rfl⟩ | ⟨rfl,_⟩
 · refine lspec tab_ok mix Tryz.func48 (by kernel_rfl) (by rfl) (by rfl) (by rfl) (by rfl) ?_
   (refine go ?_; try exact tt)
   refine Za hc [some 0,some 1,some 2,none,none,none,none,none,none,none,none,none,some 12,some 13,some 14,some 15,some 16] [] rfl (go ?_)
   refine .mk [(17,960),(18,1)] (go ?_);try exact tt
 · refine lspec tab_ok mix Tryz.func48 (by kernel_rfl) (by rfl) (by rfl) (by rfl) (by rfl) ?_
   (refine go ?_; try exact tt)
   refine Za hc [some 0,some 1,some 2,none,none,none,none,none,none,none,none,none,some 12,some 13,some 14,some 15,some 16] [] rfl (go ?_)
   exact .mk [(17,960),(18,1)] (go tt)
theorem Zsb (o : IOp) (s : Sto) {l : List Int} {k j : Nat} (hpc : o.pc = .rel) (hhd : o.hd = some (l,k + 1)) (hlk : l[k]? = some (j : Int)) (hk : k < 10) (hj : j < 4) (hf : s.Fits) (hm : 4 ≤ s.m.mtx.length) (pc' : PC) (hp' : pc' = if k = 0 then .ret else .rel) : Zap o s (Zor pc') { o with pc:=pc',hd:=some (l,k),eff:=false,blk:=false } { s with m:=(s.m.unlock o.th j).1 }:=by
 have hc:=Zf8 o.cl s (.inr hpc) hhd hlk hk hj hf hm pc' hp'
 have hor : (k = 0 ∧ pc' = .ret) ∨ (pc' = .rel ∧ k ≠ 0):=by rw [hp'];split <;> simp_all
 obtain ⟨th,t,pc,hd,h,e,ok,ef,bl⟩:=o
 dsimp only [IOp.cl] at hpc hhd hc ⊢
 clear hp'
 subst hpc hhd
 generalize (s.m.unlock th j).1 = m' at *
 rcases hor with ⟨rfl,rfl⟩ | ⟨rfl,_⟩ <;> cases ok
 · refine lspec tab_ok mix Tryz.func48 (by kernel_rfl) (by rfl) (by rfl) (by rfl) (by rfl) ?_
   (refine go ?_; try exact tt)
   refine Za hc [some 0,some 1,none,none,none,none,none,none,none,none,none,none,some 12,some 13,some 14,some 15,some 16] [] rfl (go ?_)
   refine .mk [(17,960),(18,1)] (go ?_);try exact tt
 · refine lspec tab_ok mix Tryz.func48 (by kernel_rfl) (by rfl) (by rfl) (by rfl) (by rfl) ?_
   (refine go ?_; try exact tt)
   refine Za hc [some 0,some 1,none,none,none,none,none,none,none,none,some 10,some 11,some 12,some 13,some 14,some 15,some 16] [] rfl (go ?_)
   refine .mk [(17,960),(18,1),(27,10),(28,11)] (go ?_);try exact tt
 · refine lspec tab_ok mix Tryz.func48 (by kernel_rfl) (by rfl) (by rfl) (by rfl) (by rfl) ?_
   (refine go ?_; try exact tt)
   refine Za hc [some 0,some 1,none,none,none,none,none,none,none,none,none,none,some 12,some 13,some 14,some 15,some 16] [] rfl (go ?_)
   refine .mk [(17,960),(18,1)] (go ?_);try exact tt
 · refine lspec tab_ok mix Tryz.func48 (by kernel_rfl) (by rfl) (by rfl) (by rfl) (by rfl) ?_
   (refine go ?_; try exact tt)
   refine Za hc [some 0,some 1,none,none,none,none,none,none,none,none,some 10,some 11,some 12,some 13,some 14,some 15,some 16] [] rfl (go ?_)
   exact .mk [(17,960),(18,1),(27,10),(28,11)] (go tt)
inductive Shp : PC → Option (List Int × Nat) → Prop
 | start : Shp .start none
 | top : Shp .top none
 | conf : Shp .conf (some ([0],1))
 | undo : Shp .undo (some ([0],1))
 | r0 : Shp .rungs none
 | r1 : Shp .rungs (some ([0],0))
 | choose : Shp .choose (some ([1],1))
 | bottom : Shp .bottom (some ([1],1))
 | a0 : Shp .arena (some ([0],1))
 | a1 : Shp .arena (some ([1],1))
 | a2 : Shp .arena (some ([1,2],2))
 | l0 : Shp .alloc (some ([0],1))
 | l1 : Shp .alloc (some ([1],1))
 | l2 : Shp .alloc (some ([1,2],2))
 | v0 : Shp .leave (some ([0],1))
 | v1 : Shp .leave (some ([1],1))
 | v2 : Shp .leave (some ([1,2],2))
 | p0 : Shp .put (some ([0],1))
 | p1 : Shp .put (some ([1],1))
 | p2 : Shp .put (some ([1,2],2))
 | rel : Shp .rel (some ([1,2],1))
def PC.late : PC → Bool
 | .leave | .put | .rel | .ret=>true
 | _=>false
structure IOk (n : Nat) (A : Nat → Prop) (o : IOp) : Prop where
 shp : Shp o.pc o.hd
 th0 : 0 ≤ o.th
 early : o.pc.late = false → o.ok = false ∧ o.e = 0 ∧ o.h = 0
 tm : o.pc ≠ .start → 0 ≤ o.t ∧ o.t ≤ 1152921504606846976
 full : o.ok = false → o.pc.late = true → o.e = 10 ∧ o.h = 0
 won : o.ok = true → o.e = 0
 hand : o.ok = true → (o.pc = .leave ∨ o.pc = .put) → ∃ i : Nat,i < n ∧ ZM o.h = i ∧ A i
theorem IOk.new {n : Nat} {A : Nat → Prop} {th : Int} (h : 0 ≤ th) (t : Int) : IOk n A (.new th t):=
 ⟨.start,h,fun _=>⟨rfl,rfl,rfl⟩,fun x=>absurd rfl x,fun _ x=>(by cases x),fun x=>(by cases x),fun x=>(by cases x)⟩
theorem Zs1 {n : Nat} {s : Sto} {S : List Item} {A : Nat → Prop} {K : Nat} (h : SB n s S A K) (hK : K + 1 ≤ 20000) (ht : s.m.Thr) {o : IOp} (ho : IOk n A o) :
 Zap o s (o.step s).1.done (o.step s).1 (o.step s).2:=by
 have hf:=h.fits
 have hm : 4 ≤ s.m.mtx.length:=by rw [h.nm];exact Nat.le_refl _
 have hw : 0 < s.m.words.length:=by rw [h.nw];omega
 obtain ⟨shp,th0,early,tm,full,won,hand⟩:=ho
 obtain ⟨th,t,pc,hd,hh,e,ok,ef,bl⟩:=o
 dsimp only at shp th0 early tm full won hand
 have lock : ∀ (i : Nat) (p n : PC),p.mx = some (i,n) → i < 4 → pc = p → ok = false → (i = 3 ∨ ∀ l k,hd = some (l,k) → l ≠ [] ∧ k ≤ l.length ∧ k < 10) →
  Zap ⟨th,t,pc,hd,hh,e,ok,ef,bl⟩ s ((IOp.lock ⟨th,t,pc,hd,hh,e,ok,ef,bl⟩ s i n).1.done) (IOp.lock ⟨th,t,pc,hd,hh,e,ok,ef,bl⟩ s i n).1 (IOp.lock ⟨th,t,pc,hd,hh,e,ok,ef,bl⟩ s i n).2:=by
  rintro i p n hmx hi rfl hok hhd
  unfold IOp.lock
  dsimp only
  by_cases hl : (s.m.lock th i).2 = true
  · rw [if_pos hl]
    by_cases h3 : i = 3
    · subst h3
      rcases ZfE hmx with ⟨_,a,_⟩ | ⟨_,a,_⟩ | ⟨_,a,_⟩ | ⟨rfl,_,rfl⟩
      · omega
      · omega
      · omega
      rw [if_pos rfl]
      exact ZoY ⟨th,t,.arena,hd,hh,e,ok,ef,bl⟩ s rfl hok hf hm hl
    · rw [if_neg h3]
      have:=Zq7 ⟨th,t,pc,hd,hh,e,ok,ef,bl⟩ s hmx (by omega) hok hf hm hl (hhd.resolve_left h3)
      rcases ZfE hmx with ⟨rfl,rfl,rfl⟩ | ⟨rfl,rfl,rfl⟩ | ⟨rfl,rfl,rfl⟩ | ⟨rfl,rfl,rfl⟩ <;> exact this
  · rw [if_neg hl]
    have hl : (s.m.lock th i).2 = false:=by simpa using hl
    have:=Zuw ⟨th,t,pc,hd,hh,e,ok,ef,bl⟩ s hmx hok hf hm hl
    rcases ZfE hmx with ⟨rfl,rfl,rfl⟩ | ⟨rfl,rfl,rfl⟩ | ⟨rfl,rfl,rfl⟩ | ⟨rfl,rfl,rfl⟩ <;> exact this
 have one : ∀ (a : Int) (l : List Int) (k : Nat),hd = some ([a],1) → ∀ l k,hd = some (l,k) → l ≠ [] ∧ k ≤ l.length ∧ k < 10:=fun a _ _ e l k e2=>by
  rw [e] at e2;cases e2;simp
 have alloc : pc = .alloc → ok = false → ∀ l k,hd = some (l,k) → Zap ⟨th,t,pc,hd,hh,e,ok,ef,bl⟩ s (IOp.step ⟨th,t,pc,hd,hh,e,ok,ef,bl⟩ s).1.done (IOp.step ⟨th,t,pc,hd,hh,e,ok,ef,bl⟩ s).1 (IOp.step ⟨th,t,pc,hd,hh,e,ok,ef,bl⟩ s).2:=by
  rintro rfl rfl l k rfl
  have ha:=(h.alloc2 ht th t th0).1
  show Zap _ s (if (s.allocF th t).2.2 = true then _ else _ : IOp × Sto).1.done (if (s.allocF th t).2.2 = true then _ else _ : IOp × Sto).1 (if (s.allocF th t).2.2 = true then _ else _ : IOp × Sto).2
  cases hz : (s.allocF th t).2.2 with
  | true=>
   rw [if_pos rfl]
   rw [hz] at ha
   exact Zpg ⟨th,t,.alloc,some (l,k),hh,e,false,ef,bl⟩ s _ rfl rfl rfl ha
  | false=>
   rw [if_neg (by decide)]
   rw [hz] at ha
   have h0 : (s.allocF th t).2.1 = 0:=by
    unfold Sto.allocF at hz ⊢
    split at hz
    · rfl
    · cases hz
   rw [h0] at ha
   exact Zrm ⟨th,t,.alloc,some (l,k),hh,e,false,ef,bl⟩ s _ rfl rfl rfl ha
 have unl : ∀ (pc' : PC),(pc = .put ∨ pc = .rel) → ∀ l (k j : Nat),hd = some (l,k + 1) → l[k]? = some (j : Int) → Zpu hd = j → k < 10 → j < 4 → pc' = (if k = 0 then .ret else .rel) →
  Zap ⟨th,t,pc,hd,hh,e,ok,ef,bl⟩ s (Zor pc') { (⟨th,t,pc,hd,hh,e,ok,ef,bl⟩ : IOp) with pc:=pc',hd:=some (l,k),eff:=false,blk:=false } (if pc = .put then { (IOp.putS ⟨th,t,pc,hd,hh,e,ok,ef,bl⟩ s) with m:=((IOp.putS ⟨th,t,pc,hd,hh,e,ok,ef,bl⟩ s).m.unlock th j).1 } else { s with m:=(s.m.unlock th j).1 }):=by
  rintro pc' hpc l k j rfl hlk hlast hk hj hp'
  rcases hpc with rfl | rfl
  · rw [if_pos rfl]
    unfold IOp.putS
    cases ok with
    | true=>
     rw [if_pos rfl]
     obtain ⟨i,hi,hs,ha⟩:=hand rfl (.inr rfl)
     have hp:=(h.put2 ht th th0 ha hK).1
     obtain ⟨q1,_,_⟩:=h.toSOk.put th ha hK
     dsimp only at hs ⊢
     rw [show (ZM hh).toNat = i by omega]
     have tt:=Zg th (s.putL (s.slot i).time) s.m
     have hpl : (s.putL (s.slot i).time).length ≤ 2:=by unfold Sto.putL;split;simp;split <;> simp
     have hv:=h.viol
     have hlg:=h.log
     have hkb:=h.kb
     refine Zsc ⟨th,t,.put,some (l,k + 1),hh,e,true,ef,bl⟩ s _ rfl rfl rfl hs hp hlk hk hj ⟨⟨?_,?_,?_,?_⟩,hf.slots,hf.idle,hf.next⟩ (by rw [q1.nm];exact Nat.le_refl _) pc' hp'
     · show (s.m.touches th _).log.length < _;rw [tt.2.2.1];exact hf.mem.log
     · show 0 ≤ (s.m.touches th _).viol ∧ (s.m.touches th _).viol < _;omega
     · show (s.m.touches th _).words.length < _;rw [tt.1];exact hf.mem.words
     · show (s.m.touches th _).mtx.length < _;rw [tt.2.1];exact hf.mem.mtx
    | false=>
     rw [if_neg Bool.false_ne_true]
     exact ZoH ⟨th,t,.put,some (l,k + 1),hh,e,false,ef,bl⟩ s rfl rfl rfl hlk hk hj hf hm pc' hp'
  · rw [if_neg (by decide)]
    exact Zsb ⟨th,t,.rel,some (l,k + 1),hh,e,ok,ef,bl⟩ s rfl rfl hlk hk hj hf hm pc' hp'
 cases shp with
 | start=>
  obtain ⟨rfl,rfl,rfl⟩:=early rfl
  by_cases hb : t < 0 ∨ 1152921504606846976 < t
  · have:=Zst ⟨th,t,.start,none,0,0,false,ef,bl⟩ s rfl rfl rfl ⟨rfl,rfl⟩ hb
    unfold IOp.step
    dsimp only
    rw [if_pos hb]
    exact this
  · have:=Zpr ⟨th,t,.start,none,0,0,false,ef,bl⟩ s rfl rfl rfl hb hf hw _ rfl
    unfold IOp.step
    dsimp only
    rw [if_neg hb]
    dsimp only at this ⊢
    by_cases hc : s.m.word 0 ≤ t
    · rw [if_pos hc] at this ⊢;exact this
    · rw [if_neg hc] at this ⊢;exact this
 | top=>exact lock 0 .top .conf rfl (by omega) rfl (early rfl).1 (.inr fun l k e=>by cases e)
 | r0=>exact lock 1 .rungs .choose rfl (by omega) rfl (early rfl).1 (.inr fun l k e=>by cases e)
 | r1=>exact lock 1 .rungs .choose rfl (by omega) rfl (early rfl).1 (.inr fun l k e=>by cases e;simp)
 | bottom=>exact lock 2 .bottom .arena rfl (by omega) rfl (early rfl).1 (.inr fun l k e=>by cases e;simp)
 | a0=>exact lock 3 .arena .alloc rfl (by omega) rfl (early rfl).1 (.inl rfl)
 | a1=>exact lock 3 .arena .alloc rfl (by omega) rfl (early rfl).1 (.inl rfl)
 | a2=>exact lock 3 .arena .alloc rfl (by omega) rfl (early rfl).1 (.inl rfl)
 | conf=>
  have:=Zrt ⟨th,t,.conf,some ([0],1),hh,e,ok,ef,bl⟩ s rfl rfl (early rfl).1 hf hw _ rfl
  unfold IOp.step
  dsimp only at this ⊢
  by_cases hc : s.m.word 0 ≤ t
  · rw [if_pos hc] at this ⊢;exact this
  · rw [if_neg hc] at this ⊢;exact this
 | undo=>exact Zqi ⟨th,t,.undo,some ([0],1),hh,e,ok,ef,bl⟩ s (k:=0) (j:=0) rfl rfl (early rfl).1 rfl (by omega) (by omega) hf hm
 | choose=>
  have ha:=(h.accepts2 ht th t th0).1
  have:=ZkH ⟨th,t,.choose,some ([1],1),hh,e,ok,ef,bl⟩ s _ rfl rfl (early rfl).1 ha _ rfl
  unfold IOp.step
  dsimp only at this ⊢
  cases hc : (s.accepts th t).2 with
  | true=>rw [hc,if_pos rfl] at this;rw [if_pos rfl];exact this
  | false=>rw [hc,if_neg (by decide)] at this;rw [if_neg (by decide)];exact this
 | l0=>exact alloc rfl (early rfl).1 _ _ rfl
 | l1=>exact alloc rfl (early rfl).1 _ _ rfl
 | l2=>exact alloc rfl (early rfl).1 _ _ rfl
 | v0=>exact ZfS ⟨th,t,.leave,some ([0],1),hh,e,ok,ef,bl⟩ s rfl rfl hf hm
 | v1=>exact ZfS ⟨th,t,.leave,some ([1],1),hh,e,ok,ef,bl⟩ s rfl rfl hf hm
 | v2=>exact ZfS ⟨th,t,.leave,some ([1,2],2),hh,e,ok,ef,bl⟩ s rfl rfl hf hm
 | p0=>exact unl .ret (.inl rfl) [0] 0 0 rfl rfl rfl (by omega) (by omega) rfl
 | p1=>exact unl .ret (.inl rfl) [1] 0 1 rfl rfl rfl (by omega) (by omega) rfl
 | p2=>exact unl .rel (.inl rfl) [1,2] 1 2 rfl rfl rfl (by omega) (by omega) rfl
 | rel=>exact unl .ret (.inr rfl) [1,2] 0 1 rfl rfl rfl (by omega) (by omega) rfl
end Go.Proofs.YtdjnjchpgccbiaaGreat.Abs
