/- Insertions as a state machine: states, steps, blocks. -/
import Derived.Test.YtcffiehcdadimaaGreatJB
import Derived.Test.YtcffiehcdadimaaGreatC20
namespace Go.Proofs.YtcffiehcdadimaaGreat.Abs
open Go.Proofs
set_option maxRecDepth 10000
set_option linter.unusedSimpArgs false
set_option linter.unusedVariables false
inductive PC where
 | ret | start | top | conf | undo | rungs | choose | bottom | arena | alloc | leave | put | rel
deriving DecidableEq
structure IOp where
 th : Int
 t : Int
 pc : PC
 hd : Option (List Int × Nat)
 h : Int
 e : Int
 ok : Bool
 eff : Bool
 blk : Bool
def IOp.new (th t : Int) : IOp:=⟨th,t,.start,none,0,0,false,false,false⟩
def hdL : Option (List Int × Nat) → List Int
 | none=>[]
 | some (l,k)=>l.take k
def hdPush : Option (List Int × Nat) → Int → Option (List Int × Nat)
 | none,i=>some ([i],1)
 | some (l,k),i=>some (l.take k ++ [i],k + 1)
def hdPop : Option (List Int × Nat) → Option (List Int × Nat)
 | none=>none
 | some (l,k)=>some (l,k - 1)
def hdLast (hd : Option (List Int × Nat)) : Nat:=((hdL hd).getLastD 0).toNat
def IOp.lock (o : IOp) (s : Sto) (i : Nat) (pc : PC) : IOp × Sto:=
 if (s.m.lock o.th i).2 = true then ({ o with pc:=pc,hd:=if i = 3 then o.hd else hdPush o.hd i,eff:=false,blk:=false },{ s with m:=(s.m.lock o.th i).1 })
 else ({ o with eff:=false,blk:=true },{ s with m:=(s.m.lock o.th i).1 })
def IOp.unlock (o : IOp) (s : Sto) (pc : PC) : IOp × Sto:=
 ({ o with pc:=pc,hd:=hdPop o.hd,eff:=false,blk:=false },{ s with m:=(s.m.unlock o.th (hdLast o.hd)).1 })
def IOp.putS (o : IOp) (s : Sto) : Sto:=if o.ok = true then s.put o.th (slotH o.h).toNat else s
def IOp.step (o : IOp) (s : Sto) : IOp × Sto:=
 match o.pc with
 | .ret=>(o,s)
 | .start=>if o.t < 0 ∨ 1152921504606846976 < o.t then ({ o with pc:=.ret,e:=1,eff:=true,blk:=false },s)
  else ({ o with pc:=if s.m.word 0 ≤ o.t then .top else .rungs,eff:=false,blk:=false },{ s with m:=s.m.load o.th 0 })
 | .top=>o.lock s 0 .conf
 | .conf=>({ o with pc:=if s.m.word 0 ≤ o.t then .arena else .undo,eff:=false,blk:=false },{ s with m:=s.m.load o.th 0 })
 | .undo=>o.unlock s .rungs
 | .rungs=>o.lock s 1 .choose
 | .choose=>({ o with pc:=if (s.accepts o.th o.t).2 = true then .arena else .bottom,eff:=false,blk:=false },(s.accepts o.th o.t).1)
 | .bottom=>o.lock s 2 .arena
 | .arena=>o.lock s 3 .alloc
 | .alloc=>if (s.allocF o.th o.t).2.2 = true then ({ o with pc:=.leave,h:=(s.allocF o.th o.t).2.1,ok:=true,eff:=true,blk:=false },(s.allocF o.th o.t).1)
  else ({ o with pc:=.leave,e:=10,eff:=true,blk:=false },(s.allocF o.th o.t).1)
 | .leave=>({ o with pc:=.put,eff:=false,blk:=false },{ s with m:=(s.m.unlock o.th 3).1 })
 | .put=>o.unlock (o.putS s) (if (hdL o.hd).length ≤ 1 then .ret else .rel)
 | .rel=>o.unlock s (if (hdL o.hd).length ≤ 1 then .ret else .rel)
def IOp.done (o : IOp) : Bool:=match o.pc with
 | .ret=>true
 | _=>false
def pO (ν : Nat → Nat) : V:=.p (ν 0) 16 0 0
def pB (ν : Nat → Nat) (i : Nat) : V:=.p (ν i) 1 0 0
def fnO (f : FuncId) (ν : Nat → Nat) : V:=.fn (.func f) [pO ν] []
def fnT (ν : Nat → Nat) (i : Nat) : V:=.fn (.func 178) [] [pB ν i,pB ν (i + 1),pB ν (i + 2),pB ν (i + 3)]
def nxV (pc : PC) (ν : Nat → Nat) : V:=
 match pc with
 | .ret=>.c .nilFunc
 | .start=>fnO 88 ν
 | .conf=>fnO 136 ν
 | .choose=>fnO 182 ν
 | .alloc=>fnO 207 ν
 | .leave=>fnO 233 ν
 | .rel=>fnO 248 ν
 | .undo=>.fn (.func 180) [] [pB ν 2]
 | .put=>.fn (.func 247) [] [pB ν 2]
 | .top=>fnT ν 2
 | .rungs=>fnT ν 2
 | .bottom=>fnT ν 2
 | .arena=>fnT ν 2
def hdV (hd : Option (List Int × Nat)) (n : Nat) : V:=
 match hd with
 | none=>.c (.slice none 0 0)
 | some (_,k)=>.sl n 1 0 k
def hdD (hd : Option (List Int × Nat)) : B:=
 match hd with
 | none=>.dat 1 []
 | some (l,_)=>.dat 1 (l.map intD)
def ptV (ok : Bool) (ν : Nat → Nat) : V:=
 match ok with
 | false=>.fn (.func 87) [] []
 | true=>.fn (.func 232) [] [pB ν 10,pB ν 11]
def nilS : V:=.c (.slice none 0 0)
def isRet : PC → Bool
 | .ret=>true
 | _=>false
def opR (o : IOp) (st : Nat) (ν : Nat → Nat) : B:=
 .rows 16 [[.p st 10 0 0,V.int o.th,V.int o.t,nxV o.pc ν,hdV o.hd (ν 1),ptV o.ok ν,V.int o.e,V.int o.h,V.bool false,nilS,
  V.int (match o.pc with | .ret=>o.e | _=>0),V.int (match o.pc with | .ret=>o.h | _=>0),V.bool false,nilS,V.bool o.eff,V.bool o.blk]]
def noB : B:=.dat 1 []
def cl1 (x : V) : B:=.rows 1 [[x]]
def boxO (pc : PC) (ν : Nat → Nat) : B:=
 match pc with
 | .top | .rungs | .bottom | .arena | .undo | .put=>cl1 (pO ν)
 | _=>noB
def boxM (pc : PC) : B:=
 match pc with
 | .top=>cl1 (V.int 0)
 | .rungs=>cl1 (V.int 1)
 | .bottom=>cl1 (V.int 2)
 | .arena=>cl1 (V.int 3)
 | _=>noB
def boxT (pc : PC) (ν : Nat → Nat) : B:=
 match pc with
 | .top | .rungs | .bottom | .arena=>cl1 (fnT ν 2)
 | _=>noB
def boxN (pc : PC) (ν : Nat → Nat) : B:=
 match pc with
 | .top=>cl1 (fnO 136 ν)
 | .rungs=>cl1 (fnO 182 ν)
 | .bottom=>cl1 (fnT ν 6)
 | .arena=>cl1 (fnO 207 ν)
 | _=>noB
def boxX (pc : PC) (x : B) : B:=
 match pc with
 | .bottom=>x
 | _=>noB
def boxP (ok : Bool) (x : B) : B:=
 match ok with
 | true=>x
 | false=>noB
def IOp.blkB (o : IOp) (st : Nat) (ν : Nat → Nat) (i : Nat) : B:=
 match i with
 | 0=>opR o st ν
 | 1=>hdD o.hd
 | 2=>boxO o.pc ν
 | 3=>boxM o.pc
 | 4=>boxT o.pc ν
 | 5=>boxN o.pc ν
 | 6=>boxX o.pc (cl1 (pO ν))
 | 7=>boxX o.pc (cl1 (V.int 3))
 | 8=>boxX o.pc (cl1 (fnT ν 6))
 | 9=>boxX o.pc (cl1 (fnO 207 ν))
 | 10=>boxP o.ok (cl1 (pO ν))
 | 11=>boxP o.ok (cl1 (V.int o.h))
 | _=>noB
def iB0 (o : IOp) (s : Sto) : List (Nat × B):=((List.range 12).map fun i=>(i,o.blkB 12 (fun i=>i) i)) ++ stoAt s 12 14
def nu1 (i : Nat) : Nat:=match i with
 | 0=>0
 | i + 1=>18 + i
def iB1 (o : IOp) (s : Sto) : List (Nat × B):=((List.range 12).map fun i=>(nu1 i,o.blkB 12 nu1 i)) ++ stoAt s 12 17
theorem lockNew (f : FuncId) (i : Int) : LSpec Tryz.prog 135 [.p 0 16 0 0,V.int i,.fn (.func f) [.p 0 16 0 0] []] [] 1 (fnT (fun i=>i) 1) [(1,cl1 (.p 0 16 0 0)),(2,cl1 (V.int i)),(3,cl1 (fnT (fun i=>i) 1)),(4,cl1 (.fn (.func f) [.p 0 16 0 0] []))] 5:=by
 refine lspec tab_ok mix Tryz.func135 (by kernel_rfl) (by rfl) (by rfl) (by rfl) (by rfl) ?_
 (refine go ?_; try exact True.intro)
 refine .mk [(1,64),(2,128),(3,320),(4,192)] (go ?_);try exact True.intro
theorem lockNew2 (i : Int) : LSpec Tryz.prog 135 [.p 0 16 0 0,V.int i,fnT (fun i=>i) 1] [] 5 (fnT (fun i=>i) 5) [(5,cl1 (.p 0 16 0 0)),(6,cl1 (V.int i)),(7,cl1 (fnT (fun i=>i) 5)),(8,cl1 (fnT (fun i=>i) 1))] 9:=by
 refine lspec tab_ok mix Tryz.func135 (by kernel_rfl) (by rfl) (by rfl) (by rfl) (by rfl) ?_
 (refine go ?_; try exact True.intro)
 refine .mk [(5,64),(6,128),(7,320),(8,192)] (go ?_);try exact True.intro
theorem nearC : LSpec Tryz.prog 137 [.p 0 16 0 0] [] 1 (fnT (fun i=>i) 1) [(1,cl1 (.p 0 16 0 0)),(2,cl1 (V.int 1)),(3,cl1 (fnT (fun i=>i) 1)),(4,cl1 (fnO 182 fun i=>i))] 5:=by
 refine lspec tab_ok mix Tryz.func137 (by kernel_rfl) (by rfl) (by rfl) (by rfl) (by rfl) ?_
 (refine go ?_; try exact True.intro)
 refine callL (lockNew 182 1) [some 0] [] rfl (go ?_)
 refine .mk [(1,320),(2,321),(3,322),(4,323)] (go ?_);try exact True.intro
theorem arenaNC : LSpec Tryz.prog 179 [.p 0 16 0 0] [] 1 (fnT (fun i=>i) 1) [(1,cl1 (.p 0 16 0 0)),(2,cl1 (V.int 3)),(3,cl1 (fnT (fun i=>i) 1)),(4,cl1 (fnO 207 fun i=>i))] 5:=by
 refine lspec tab_ok mix Tryz.func179 (by kernel_rfl) (by rfl) (by rfl) (by rfl) (by rfl) ?_
 (refine go ?_; try exact True.intro)
 refine callL (lockNew 207 3) [some 0] [] rfl (go ?_)
 refine .mk [(1,320),(2,321),(3,322),(4,323)] (go ?_);try exact True.intro
theorem farC (o : IOp) (s : Sto) (hpc : (o.pc = .start ∧ o.hd = none) ∨ (o.pc = .conf ∧ ∃ l k,o.hd = some (l,k))) (hok : o.ok = false) (hf : s.Fits) (hw : 0 < s.m.words.length) :
 LSpec Tryz.prog 134 [.p 0 16 0 0] ((0,opR o 12 fun i=>i) :: stoAt s 12 14) 17 (V.bool (decide (s.m.word 0 ≤ o.t))) ((0,opR o 12 fun i=>i) :: stoAt { s with m:=s.m.load o.th 0 } 12 17) 18:=by
 have hl:=loadC s.m o.th 0 hw hf.mem
 obtain ⟨th,t,pc,hd,h,e,ok,ef,bl⟩:=o
 dsimp only at hpc hok hl ⊢
 subst hok
 generalize s.m.load th 0 = m' at *
 generalize s.m.word 0 = w at *
 rcases hpc with ⟨rfl,rfl⟩ | ⟨rfl,l,k,rfl⟩
 · refine lspec tab_ok mix Tryz.func134 (by kernel_rfl) (by rfl) (by rfl) (by rfl) (by rfl) ?_
   (refine go ?_; try exact True.intro)
   refine dcallR (memoryC s) [some 12,some 13,some 14,some 15,some 16] rfl rfl (go ?_)
   refine dcallL hl [some 13,some 14,some 15,some 16] [] (go ?_)
   refine .mk [(17,960)] (go ?_);try exact True.intro
 · refine lspec tab_ok mix Tryz.func134 (by kernel_rfl) (by rfl) (by rfl) (by rfl) (by rfl) ?_
   (refine go ?_; try exact True.intro)
   refine dcallR (memoryC s) [some 12,some 13,some 14,some 15,some 16] rfl rfl (go ?_)
   refine dcallL hl [some 13,some 14,some 15,some 16] [] (go ?_)
   refine .mk [(17,960)] (go ?_);try exact True.intro
abbrev id1 : Nat → Nat:=fun i=>i
def boxI (pc : PC) (ν : Nat → Nat) : List (Nat × B):=[(ν 2,boxO pc ν),(ν 3,boxM pc),(ν 4,boxT pc ν),(ν 5,boxN pc ν)]
theorem iStartBad (o : IOp) (s : Sto) (hpc : o.pc = .start) (hhd : o.hd = none) (hok : o.ok = false) (ht : o.t < 0 ∨ 1152921504606846976 < o.t) :
 LSpec Tryz.prog 88 [.p 0 16 0 0] ((0,opR o 12 id1) :: stoAt s 12 14) 17 (nxV .ret id1) ((0,opR { o with e:=1,eff:=true } 12 id1) :: stoAt s 12 14) 17:=by
 obtain ⟨th,t,pc,hd,h,e,ok,ef,bl⟩:=o
 dsimp only at hpc hhd hok ht ⊢
 subst hok hpc hhd
 refine lspec tab_ok mix Tryz.func88 (by kernel_rfl) (by rfl) (by rfl) (by rfl) (by rfl) ?_
 (refine go ?_; try exact True.intro)
 by_cases h1 : t < 0
 · rw [decide_eq_true h1]
   (refine go ?_; try exact True.intro)
   refine .mk [] (go ?_);try exact True.intro
 · rw [decide_eq_false h1]
   (refine go ?_; try exact True.intro)
   rw [decide_eq_true (ht.resolve_left h1)]
   (refine go ?_; try exact True.intro)
   refine .mk [] (go ?_);try exact True.intro
theorem iStart (o : IOp) (s : Sto) (hpc : o.pc = .start) (hhd : o.hd = none) (hok : o.ok = false) (ht : ¬ (o.t < 0 ∨ 1152921504606846976 < o.t)) (hf : s.Fits) (hw : 0 < s.m.words.length) (pc' : PC) (hp' : pc' = if s.m.word 0 ≤ o.t then .top else .rungs) :
 LSpec Tryz.prog 88 [.p 0 16 0 0] ((0,opR o 12 id1) :: stoAt s 12 14) 17 (nxV pc' nu1) ((0,opR o 12 id1) :: (boxI pc' nu1 ++ stoAt { s with m:=s.m.load o.th 0 } 12 17)) 29:=by
 have hl:=farC o s (.inl ⟨hpc,hhd⟩) hok hf hw
 obtain ⟨th,t,pc,hd,h,e,ok,ef,bl⟩:=o
 dsimp only at hpc hhd hok ht hl hp' ⊢
 subst hok hpc hhd
 generalize s.m.load th 0 = m' at *
 generalize s.m.word 0 = w at *
 by_cases hc : w ≤ t
 · rw [decide_eq_true hc] at hl
   rw [if_pos hc] at hp'
   subst hp'
   refine lspec tab_ok mix Tryz.func88 (by kernel_rfl) (by rfl) (by rfl) (by rfl) (by rfl) ?_
   (refine go ?_; try exact True.intro)
   rw [decide_eq_false (fun x=>ht (.inl x))]
   (refine go ?_; try exact True.intro)
   rw [decide_eq_false (fun x=>ht (.inr x))]
   (refine go ?_; try exact True.intro)
   refine callL hl [some 0,none,none,none,none,none,none,none,none,none,none,none,some 12,some 13,some 14,some 15,some 16] [] rfl (go ?_)
   refine callL (lockNew 136 0) [some 0] [] rfl (go ?_)
   refine .mk [(17,1024),(19,1344),(20,1345),(21,1346),(22,1347)] (go ?_);try exact True.intro
 · rw [decide_eq_false hc] at hl
   rw [if_neg hc] at hp'
   subst hp'
   refine lspec tab_ok mix Tryz.func88 (by kernel_rfl) (by rfl) (by rfl) (by rfl) (by rfl) ?_
   (refine go ?_; try exact True.intro)
   rw [decide_eq_false (fun x=>ht (.inl x))]
   (refine go ?_; try exact True.intro)
   rw [decide_eq_false (fun x=>ht (.inr x))]
   (refine go ?_; try exact True.intro)
   refine callL hl [some 0,none,none,none,none,none,none,none,none,none,none,none,some 12,some 13,some 14,some 15,some 16] [] rfl (go ?_)
   refine callL nearC [some 0] [] rfl (go ?_)
   refine .mk [(17,1024),(19,1216),(20,1217),(21,1218),(22,1219)] (go ?_);try exact True.intro
def PC.mx : PC → Option (Nat × PC)
 | .top=>some (0,.conf)
 | .rungs=>some (1,.choose)
 | .bottom=>some (2,.arena)
 | .arena=>some (3,.alloc)
 | _=>none
def nx4 (pc : PC) : List (Nat × B):=[(2,boxO pc id1),(3,boxM pc),(4,boxT pc id1),(5,boxN pc id1)]
def thnV (pc : PC) : V:=
 match pc with
 | .top=>fnO 136 id1
 | .rungs=>fnO 182 id1
 | .bottom=>fnT id1 6
 | _=>fnO 207 id1
theorem pc_mx {pc : PC} {i : Nat} {n : PC} (h : pc.mx = some (i,n)) : (pc = .top ∧ i = 0 ∧ n = .conf) ∨ (pc = .rungs ∧ i = 1 ∧ n = .choose) ∨ (pc = .bottom ∧ i = 2 ∧ n = .arena) ∨ (pc = .arena ∧ i = 3 ∧ n = .alloc):=by
 cases pc <;> simp_all [PC.mx]
set_option maxHeartbeats 4000000 in
theorem tryNo (o : IOp) (s : Sto) {i : Nat} {n : PC} (hpc : o.pc.mx = some (i,n)) (hok : o.ok = false) (hf : s.Fits) (hm : 4 ≤ s.m.mtx.length) (hl : (s.m.lock o.th i).2 = false) :
 LSpec Tryz.prog 178 [.p 2 1 0 0,.p 3 1 0 0,.p 4 1 0 0,.p 5 1 0 0] ((0,opR o 12 id1) :: (nx4 o.pc ++ stoAt s 12 14)) 17 (nxV o.pc id1) ((0,opR { o with blk:=true } 12 id1) :: (nx4 o.pc ++ stoAt { s with m:=(s.m.lock o.th i).1 } 12 17)) 18:=by
 have hc:=lockC s.m o.th i (by rcases pc_mx hpc with ⟨_,rfl,_⟩ | ⟨_,rfl,_⟩ | ⟨_,rfl,_⟩ | ⟨_,rfl,_⟩ <;> omega) hf.mem
 rw [hl] at hc
 obtain ⟨th,t,pc,hd,h,e,ok,ef,bl⟩:=o
 dsimp only at hpc hok hc ⊢
 subst hok
 generalize (s.m.lock th i).1 = m' at *
 rcases pc_mx hpc with ⟨rfl,rfl,_⟩ | ⟨rfl,rfl,_⟩ | ⟨rfl,rfl,_⟩ | ⟨rfl,rfl,_⟩ <;> (rcases hd with _ | ⟨l,k⟩) <;> (
  refine lspec tab_ok mix Tryz.func178 (by kernel_rfl) (by rfl) (by rfl) (by rfl) (by rfl) ?_
  (refine go ?_; try exact True.intro)
  refine dcallR (memoryC s) [some 12,some 13,some 14,some 15,some 16] rfl rfl (go ?_)
  refine dcallL hc [some 13,some 14,some 15,some 16] [] (go ?_)
  refine .mk [(17,768)] ?_
  (refine go ?_; try exact True.intro))
def mu1 (i : Nat) : Nat:=match i with
 | 1=>18
 | i=>i
theorem tryArena (o : IOp) (s : Sto) (hpc : o.pc = .arena) (hok : o.ok = false) (hf : s.Fits) (hm : 4 ≤ s.m.mtx.length) (hl : (s.m.lock o.th 3).2 = true) :
 LSpec Tryz.prog 178 [.p 2 1 0 0,.p 3 1 0 0,.p 4 1 0 0,.p 5 1 0 0] ((0,opR o 12 id1) :: (nx4 o.pc ++ stoAt s 12 14)) 17 (thnV o.pc) ((0,opR o 12 id1) :: stoAt { s with m:=(s.m.lock o.th 3).1 } 12 17) 18:=by
 have hc:=lockC s.m o.th 3 (by omega) hf.mem
 rw [hl] at hc
 obtain ⟨th,t,pc,hd,h,e,ok,ef,bl⟩:=o
 dsimp only at hpc hok hc ⊢
 subst hok hpc
 generalize (s.m.lock th 3).1 = m' at *
 (rcases hd with _ | ⟨l,k⟩) <;> (
  refine lspec tab_ok mix Tryz.func178 (by kernel_rfl) (by rfl) (by rfl) (by rfl) (by rfl) ?_
  (refine go ?_; try exact True.intro)
  refine dcallR (memoryC s) [some 12,some 13,some 14,some 15,some 16] rfl rfl (go ?_)
  refine dcallL hc [some 13,some 14,some 15,some 16] [] (go ?_)
  refine .mk [(17,768)] ?_
  (refine go ?_; try exact True.intro))
set_option maxHeartbeats 4000000 in
theorem tryOk (o : IOp) (s : Sto) {i : Nat} {n : PC} (hpc : o.pc.mx = some (i,n)) (hi : i < 3) (hok : o.ok = false) (hf : s.Fits) (hm : 4 ≤ s.m.mtx.length) (hl : (s.m.lock o.th i).2 = true) (hh : ∀ l k,o.hd = some (l,k) → l ≠ [] ∧ k ≤ l.length ∧ k < 10) :
 LSpec Tryz.prog 178 [.p 2 1 0 0,.p 3 1 0 0,.p 4 1 0 0,.p 5 1 0 0] ((0,opR o 12 id1) :: (1,hdD o.hd) :: (nx4 o.pc ++ stoAt s 12 14)) 17 (thnV o.pc) ((0,opR { o with hd:=hdPush o.hd i } 12 mu1) :: (18,hdD (hdPush o.hd i)) :: stoAt { s with m:=(s.m.lock o.th i).1 } 12 17) 19:=by
 have hc:=lockC s.m o.th i (by omega) hf.mem
 rw [hl] at hc
 obtain ⟨th,t,pc,hd,h,e,ok,ef,bl⟩:=o
 dsimp only at hpc hok hc hh ⊢
 subst hok
 generalize (s.m.lock th i).1 = m' at *
 rcases pc_mx hpc with ⟨rfl,rfl,_⟩ | ⟨rfl,rfl,_⟩ | ⟨rfl,rfl,_⟩ | ⟨rfl,rfl,_⟩
 case inr.inr.inr=>omega
 all_goals (rcases hd with _ | ⟨l,k⟩)
 all_goals
  refine lspec tab_ok mix Tryz.func178 (by kernel_rfl) (by rfl) (by rfl) (by rfl) (by rfl) ?_
  (refine go ?_; try exact True.intro)
  refine dcallR (memoryC s) [some 12,some 13,some 14,some 15,some 16] rfl rfl (go ?_)
  refine dcallL hc [some 13,some 14,some 15,some 16] [] (go ?_);try exact True.intro
 all_goals first
  | (refine .mk [(17, 768), (18, 1472)] ?_
     (refine go ?_; try exact True.intro))
  | (obtain ⟨h1, h2, h3⟩ := hh l k rfl
     refine cb ⟨by simpa using h1,by simp;omega,by simp;omega⟩ (go ?_)
     refine .mk [(17,768),(18,1472)] (go ?_)
     refine cb (by simp [intD,List.map_take]) ?_
     (refine go ?_; try exact True.intro))
theorem ulC (o : IOp) (s : Sto) {l : List Int} {k j : Nat} (hpc : o.pc = .undo ∨ o.pc = .put ∨ o.pc = .rel) (hhd : o.hd = some (l,k + 1)) (hlk : l[k]? = some (j : Int)) (hk : k < 10) (hj : j < 4) (hf : s.Fits) (hm : 4 ≤ s.m.mtx.length) :
 LSpec Tryz.prog 181 [.p 0 16 0 0] ((0,opR o 12 id1) :: (1,hdD o.hd) :: stoAt s 12 14) 17 (.tup []) ((0,opR { o with hd:=some (l,k) } 12 id1) :: (1,hdD o.hd) :: stoAt { s with m:=(s.m.unlock o.th j).1 } 12 17) 18:=by
 have hc:=unlockC s.m o.th j (by omega) hf.mem
 have hlen : k < l.length:=(List.getElem?_eq_some_iff.1 hlk).1
 obtain ⟨th,t,pc,hd,h,e,ok,ef,bl⟩:=o
 dsimp only at hpc hhd hc ⊢
 subst hhd
 generalize (s.m.unlock th j).1 = m' at *
 generalize (s.m.unlock th j).2 = z at *
 rcases hpc with rfl | rfl | rfl <;> cases ok <;> (
  refine lspec tab_ok mix Tryz.func181 (by kernel_rfl) (by rfl) (by rfl) (by rfl) (by rfl) ?_
  (refine go ?_; try exact True.intro)
  rw [show ((k + 1 : Nat) : Int) - 1 = (k : Int) by omega]
  refine dcallR (memoryC s) [some 12,some 13,some 14,some 15,some 16] rfl rfl (go ?_)
  refine atB (show k < k + 1 by omega) (go ?_)
  rw [Nat.zero_add]
  refine getB hlk (go ?_)
  refine dcallL hc [some 13,some 14,some 15,some 16] [] (go ?_)
  refine slB 0 k (by rfl) (by rfl) (by omega) (go ?_)
  refine .mk [(17,1536)] ?_
  (refine go ?_; try exact True.intro))
theorem iConf (o : IOp) (s : Sto) {l : List Int} {k : Nat} (hpc : o.pc = .conf) (hhd : o.hd = some (l,k)) (hok : o.ok = false) (hf : s.Fits) (hw : 0 < s.m.words.length) (pc' : PC) (hp' : pc' = if s.m.word 0 ≤ o.t then .arena else .undo) :
 LSpec Tryz.prog 136 [.p 0 16 0 0] ((0,opR o 12 id1) :: stoAt s 12 14) 17 (nxV pc' nu1) ((0,opR o 12 id1) :: (boxI pc' nu1 ++ stoAt { s with m:=s.m.load o.th 0 } 12 17)) 29:=by
 have hl:=farC o s (.inr ⟨hpc,l,k,hhd⟩) hok hf hw
 obtain ⟨th,t,pc,hd,h,e,ok,ef,bl⟩:=o
 dsimp only at hpc hhd hok hl hp' ⊢
 subst hok hpc hhd
 generalize s.m.load th 0 = m' at *
 generalize s.m.word 0 = w at *
 by_cases hc : w ≤ t
 · rw [decide_eq_true hc] at hl
   rw [if_pos hc] at hp'
   subst hp'
   refine lspec tab_ok mix Tryz.func136 (by kernel_rfl) (by rfl) (by rfl) (by rfl) (by rfl) ?_
   (refine go ?_; try exact True.intro)
   refine callL hl [some 0,some 1,none,none,none,none,none,none,none,none,none,none,some 12,some 13,some 14,some 15,some 16] [] rfl (go ?_)
   refine callL arenaNC [some 0] [] rfl (go ?_)
   refine .mk [(17,256),(19,384),(20,385),(21,386),(22,387)] (go ?_);try exact True.intro
 · rw [decide_eq_false hc] at hl
   rw [if_neg hc] at hp'
   subst hp'
   refine lspec tab_ok mix Tryz.func136 (by kernel_rfl) (by rfl) (by rfl) (by rfl) (by rfl) ?_
   (refine go ?_; try exact True.intro)
   refine callL hl [some 0,some 1,none,none,none,none,none,none,none,none,none,none,some 12,some 13,some 14,some 15,some 16] [] rfl (go ?_)
   refine .mk [(17,256),(19,64)] (go ?_);try exact True.intro
theorem iUndo (o : IOp) (s : Sto) {l : List Int} {k j : Nat} (hpc : o.pc = .undo) (hhd : o.hd = some (l,k + 1)) (hok : o.ok = false) (hlk : l[k]? = some (j : Int)) (hk : k < 10) (hj : j < 4) (hf : s.Fits) (hm : 4 ≤ s.m.mtx.length) :
 LSpec Tryz.prog 180 [.p 2 1 0 0] ((0,opR o 12 id1) :: (1,hdD o.hd) :: (2,boxO o.pc id1) :: stoAt s 12 14) 17 (nxV .rungs nu1) ((0,opR { o with hd:=some (l,k) } 12 id1) :: (1,hdD o.hd) :: (boxI .rungs nu1 ++ stoAt { s with m:=(s.m.unlock o.th j).1 } 12 17)) 29:=by
 have hu:=ulC o s (.inl hpc) hhd hlk hk hj hf hm
 obtain ⟨th,t,pc,hd,h,e,ok,ef,bl⟩:=o
 dsimp only at hpc hhd hok hu ⊢
 subst hok hpc hhd
 generalize (s.m.unlock th j).1 = m' at *
 refine lspec tab_ok mix Tryz.func180 (by kernel_rfl) (by rfl) (by rfl) (by rfl) (by rfl) ?_
 (refine go ?_; try exact True.intro)
 refine callL hu [some 0,some 1,some 2,none,none,none,none,none,none,none,none,none,some 12,some 13,some 14,some 15,some 16] [] rfl (go ?_)
 refine callL nearC [some 0] [] rfl (go ?_)
 refine .mk [(17,192),(19,320),(20,321),(21,322),(22,323)] (go ?_);try exact True.intro
def boxJ (pc : PC) (ν : Nat → Nat) : List (Nat × B):=[(ν 6,boxX pc (cl1 (pO ν))),(ν 7,boxX pc (cl1 (V.int 3))),(ν 8,boxX pc (cl1 (fnT ν 6))),(ν 9,boxX pc (cl1 (fnO 207 ν)))]
theorem iChoose (o : IOp) (s s' : Sto) {l : List Int} {k : Nat} {z : Bool} (hpc : o.pc = .choose) (hhd : o.hd = some (l,k)) (hok : o.ok = false)
 (ha : LSpec Tryz.prog 208 [.p 0 10 0 0,V.int o.th,V.int o.t] (stoB s 2) 5 (V.bool z) (stoB s' 2) 5) (pc' : PC) (hp' : pc' = if z = true then .arena else .bottom) :
 LSpec Tryz.prog 182 [.p 0 16 0 0] ((0,opR o 12 id1) :: stoAt s 12 14) 17 (nxV pc' nu1) ((0,opR o 12 id1) :: (boxI pc' nu1 ++ boxJ pc' nu1 ++ stoAt s' 12 14)) 29:=by
 obtain ⟨th,t,pc,hd,h,e,ok,ef,bl⟩:=o
 dsimp only at hpc hhd hok ha hp' ⊢
 subst hok hpc hhd
 cases z with
 | true=>
  rw [if_pos rfl] at hp'
  subst hp'
  refine lspec tab_ok mix Tryz.func182 (by kernel_rfl) (by rfl) (by rfl) (by rfl) (by rfl) ?_
  (refine go ?_; try exact True.intro)
  refine dcallL ha [some 12,some 13,some 14,some 15,some 16] [] (go ?_)
  refine callL arenaNC [some 0] [] rfl (go ?_)
  refine .mk [(19,1024),(20,1025),(21,1026),(22,1027)] (go ?_);try exact True.intro
 | false=>
  rw [if_neg (by decide)] at hp'
  subst hp'
  refine lspec tab_ok mix Tryz.func182 (by kernel_rfl) (by rfl) (by rfl) (by rfl) (by rfl) ?_
  (refine go ?_; try exact True.intro)
  refine dcallL ha [some 12,some 13,some 14,some 15,some 16] [] (go ?_)
  refine callL arenaNC [some 0] [] rfl (go ?_)
  refine callL (lockNew2 2) [some 0,some 1088,some 1089,some 1090,some 1091] [] rfl (go ?_)
  refine .mk [(23,1088),(24,1089),(25,1090),(26,1091),(19,1152),(20,1153),(21,1154),(22,1155)] (go ?_);try exact True.intro
def nuA (i : Nat) : Nat:=match i with
 | 10=>27
 | 11=>28
 | i=>i
theorem iAlloc (o : IOp) (s s' : Sto) {l : List Int} {k : Nat} {h' : Int} (hpc : o.pc = .alloc) (hhd : o.hd = some (l,k)) (hok : o.ok = false)
 (ha : LSpec Tryz.prog 102 [.p 0 10 0 0,V.int o.th,V.int o.t] (stoB s 2) 5 (.tup [V.int h',V.bool true]) (stoB s' 5) 6) :
 LSpec Tryz.prog 207 [.p 0 16 0 0] ((0,opR o 12 id1) :: stoAt s 12 14) 17 (nxV .leave id1) ((0,opR { o with h:=h',ok:=true,eff:=true } 12 nuA) :: (27,cl1 (pO id1)) :: (28,cl1 (V.int h')) :: stoAt s' 12 17) 29:=by
 obtain ⟨th,t,pc,hd,h,e,ok,ef,bl⟩:=o
 dsimp only at hpc hhd hok ha ⊢
 subst hok hpc hhd
 refine lspec tab_ok mix Tryz.func207 (by kernel_rfl) (by rfl) (by rfl) (by rfl) (by rfl) ?_
 (refine go ?_; try exact True.intro)
 refine dcallL ha [some 12,some 13,some 14,some 15,some 16] [] (go ?_)
 refine .mk [(17,960),(27,64),(28,1216)] (go ?_);try exact True.intro
theorem iAllocNo (o : IOp) (s s' : Sto) {l : List Int} {k : Nat} (hpc : o.pc = .alloc) (hhd : o.hd = some (l,k)) (hok : o.ok = false)
 (ha : LSpec Tryz.prog 102 [.p 0 10 0 0,V.int o.th,V.int o.t] (stoB s 2) 5 (.tup [V.int 0,V.bool false]) (stoB s' 5) 6) :
 LSpec Tryz.prog 207 [.p 0 16 0 0] ((0,opR o 12 id1) :: stoAt s 12 14) 17 (nxV .leave id1) ((0,opR { o with e:=10,eff:=true } 12 id1) :: stoAt s' 12 17) 18:=by
 obtain ⟨th,t,pc,hd,h,e,ok,ef,bl⟩:=o
 dsimp only at hpc hhd hok ha ⊢
 subst hok hpc hhd
 refine lspec tab_ok mix Tryz.func207 (by kernel_rfl) (by rfl) (by rfl) (by rfl) (by rfl) ?_
 (refine go ?_; try exact True.intro)
 refine dcallL ha [some 12,some 13,some 14,some 15,some 16] [] (go ?_)
 refine .mk [(17,960)] (go ?_);try exact True.intro
theorem iLeave (o : IOp) (s : Sto) {l : List Int} {k : Nat} (hpc : o.pc = .leave) (hhd : o.hd = some (l,k)) (hf : s.Fits) (hm : 4 ≤ s.m.mtx.length) :
 LSpec Tryz.prog 233 [.p 0 16 0 0] ((0,opR o 12 id1) :: stoAt s 12 14) 17 (nxV .put nu1) ((0,opR o 12 id1) :: (boxI .put nu1 ++ stoAt { s with m:=(s.m.unlock o.th 3).1 } 12 17)) 29:=by
 have hc:=unlockC s.m o.th 3 (by omega) hf.mem
 obtain ⟨th,t,pc,hd,h,e,ok,ef,bl⟩:=o
 dsimp only at hpc hhd hc ⊢
 subst hpc hhd
 generalize (s.m.unlock th 3).1 = m' at *
 generalize (s.m.unlock th 3).2 = z at *
 cases ok <;> (
  refine lspec tab_ok mix Tryz.func233 (by kernel_rfl) (by rfl) (by rfl) (by rfl) (by rfl) ?_
  (refine go ?_; try exact True.intro)
  refine dcallR (memoryC s) [some 12,some 13,some 14,some 15,some 16] rfl rfl (go ?_)
  refine dcallL hc [some 13,some 14,some 15,some 16] [] (go ?_)
  refine .mk [(17,768),(19,64)] ?_
  (refine go ?_; try exact True.intro))
theorem iRelease (o : IOp) (s : Sto) {l : List Int} {k j : Nat} (hpc : o.pc = .put ∨ o.pc = .rel) (hhd : o.hd = some (l,k + 1)) (hlk : l[k]? = some (j : Int)) (hk : k < 10) (hj : j < 4) (hf : s.Fits) (hm : 4 ≤ s.m.mtx.length) (pc' : PC) (hp' : pc' = if k = 0 then .ret else .rel) :
 LSpec Tryz.prog 248 [.p 0 16 0 0] ((0,opR o 12 id1) :: (1,hdD o.hd) :: stoAt s 12 14) 17 (nxV pc' id1) ((0,opR { o with hd:=some (l,k) } 12 id1) :: (1,hdD o.hd) :: stoAt { s with m:=(s.m.unlock o.th j).1 } 12 17) 18:=by
 have hu:=ulC o s (.inr hpc) hhd hlk hk hj hf hm
 obtain ⟨th,t,pc,hd,h,e,ok,ef,bl⟩:=o
 dsimp only at hpc hhd hu ⊢
 subst hhd
 generalize (s.m.unlock th j).1 = m' at *
 by_cases h0 : k = 0
 · subst h0
   rw [if_pos rfl] at hp'
   subst hp'
   rcases hpc with rfl | rfl <;> cases ok
   · refine lspec tab_ok mix Tryz.func248 (by kernel_rfl) (by rfl) (by rfl) (by rfl) (by rfl) ?_
     (refine go ?_; try exact True.intro)
     refine callL hu [some 0,some 1,some 2,none,none,none,none,none,none,none,none,none,some 12,some 13,some 14,some 15,some 16] [] rfl (go ?_)
     refine .mk [(17,192)] (go ?_);try exact True.intro
   · refine lspec tab_ok mix Tryz.func248 (by kernel_rfl) (by rfl) (by rfl) (by rfl) (by rfl) ?_
     (refine go ?_; try exact True.intro)
     refine callL hu [some 0,some 1,some 2,none,none,none,none,none,none,none,some 10,some 11,some 12,some 13,some 14,some 15,some 16] [] rfl (go ?_)
     refine .mk [(17,192)] (go ?_);try exact True.intro
   · refine lspec tab_ok mix Tryz.func248 (by kernel_rfl) (by rfl) (by rfl) (by rfl) (by rfl) ?_
     (refine go ?_; try exact True.intro)
     refine callL hu [some 0,some 1,none,none,none,none,none,none,none,none,none,none,some 12,some 13,some 14,some 15,some 16] [] rfl (go ?_)
     refine .mk [(17,192)] (go ?_);try exact True.intro
   · refine lspec tab_ok mix Tryz.func248 (by kernel_rfl) (by rfl) (by rfl) (by rfl) (by rfl) ?_
     (refine go ?_; try exact True.intro)
     refine callL hu [some 0,some 1,none,none,none,none,none,none,none,none,some 10,some 11,some 12,some 13,some 14,some 15,some 16] [] rfl (go ?_)
     refine .mk [(17,192)] (go ?_);try exact True.intro
 · rw [if_neg h0] at hp'
   subst hp'
   rcases hpc with rfl | rfl <;> cases ok
   · refine lspec tab_ok mix Tryz.func248 (by kernel_rfl) (by rfl) (by rfl) (by rfl) (by rfl) ?_
     (refine go ?_; try exact True.intro)
     refine callL hu [some 0,some 1,some 2,none,none,none,none,none,none,none,none,none,some 12,some 13,some 14,some 15,some 16] [] rfl (go ?_)
     rw [decide_eq_false (show ¬ (k : Int) = 0 by omega)]
     (refine go ?_; try exact True.intro)
     refine .mk [(17,192)] (go ?_);try exact True.intro
   · refine lspec tab_ok mix Tryz.func248 (by kernel_rfl) (by rfl) (by rfl) (by rfl) (by rfl) ?_
     (refine go ?_; try exact True.intro)
     refine callL hu [some 0,some 1,some 2,none,none,none,none,none,none,none,some 10,some 11,some 12,some 13,some 14,some 15,some 16] [] rfl (go ?_)
     rw [decide_eq_false (show ¬ (k : Int) = 0 by omega)]
     (refine go ?_; try exact True.intro)
     refine .mk [(17,192)] (go ?_);try exact True.intro
   · refine lspec tab_ok mix Tryz.func248 (by kernel_rfl) (by rfl) (by rfl) (by rfl) (by rfl) ?_
     (refine go ?_; try exact True.intro)
     refine callL hu [some 0,some 1,none,none,none,none,none,none,none,none,none,none,some 12,some 13,some 14,some 15,some 16] [] rfl (go ?_)
     rw [decide_eq_false (show ¬ (k : Int) = 0 by omega)]
     (refine go ?_; try exact True.intro)
     refine .mk [(17,192)] (go ?_);try exact True.intro
   · refine lspec tab_ok mix Tryz.func248 (by kernel_rfl) (by rfl) (by rfl) (by rfl) (by rfl) ?_
     (refine go ?_; try exact True.intro)
     refine callL hu [some 0,some 1,none,none,none,none,none,none,none,none,some 10,some 11,some 12,some 13,some 14,some 15,some 16] [] rfl (go ?_)
     rw [decide_eq_false (show ¬ (k : Int) = 0 by omega)]
     (refine go ?_; try exact True.intro)
     refine .mk [(17,192)] (go ?_);try exact True.intro
theorem iNoPut : PSpec Tryz.prog 87 [] (.tup []):=by
 refine pspec tab_ok mix Tryz.func87 (by kernel_rfl) rfl rfl ?_
 (refine go ?_; try exact True.intro)
 exact .same rfl
theorem iPutF (o : IOp) (s s' : Sto) {l : List Int} {k i : Nat} (hpc : o.pc = .put) (hhd : o.hd = some (l,k)) (hok : o.ok = true) (hi : slotH o.h = (i : Int))
 (hp : LSpec Tryz.prog 104 [.p 0 10 0 0,V.int o.th,V.int i] (stoB s 2) 5 (.tup []) (stoB s' 2) 5) :
 LSpec Tryz.prog 232 [.p 10 1 0 0,.p 11 1 0 0] ((0,opR o 12 id1) :: (10,cl1 (pO id1)) :: (11,cl1 (V.int o.h)) :: stoAt s 12 14) 17 (.tup []) ((0,opR o 12 id1) :: (10,cl1 (pO id1)) :: (11,cl1 (V.int o.h)) :: stoAt s' 12 14) 17:=by
 have hs:=slotC o.h
 rw [hi] at hs
 obtain ⟨th,t,pc,hd,h,e,ok,ef,bl⟩:=o
 dsimp only at hpc hhd hok hp hs ⊢
 subst hpc hhd hok
 refine lspec tab_ok mix Tryz.func232 (by kernel_rfl) (by rfl) (by rfl) (by rfl) (by rfl) ?_
 (refine go ?_; try exact True.intro)
 refine dcallB hs (go ?_)
 refine dcallL hp [some 12,some 13,some 14,some 15,some 16] [] (go ?_)
 refine .mk [] (go ?_);try exact True.intro
theorem iPut (o : IOp) (s s' : Sto) {l : List Int} {k i j : Nat} (hpc : o.pc = .put) (hhd : o.hd = some (l,k + 1)) (hok : o.ok = true) (hi : slotH o.h = (i : Int))
 (hp : LSpec Tryz.prog 104 [.p 0 10 0 0,V.int o.th,V.int i] (stoB s 2) 5 (.tup []) (stoB s' 2) 5) (hlk : l[k]? = some (j : Int)) (hk : k < 10) (hj : j < 4) (hf : s'.Fits) (hm : 4 ≤ s'.m.mtx.length) (pc' : PC) (hp' : pc' = if k = 0 then .ret else .rel) :
 LSpec Tryz.prog 247 [.p 2 1 0 0] ((0,opR o 12 id1) :: (1,hdD o.hd) :: (2,boxO o.pc id1) :: (10,cl1 (pO id1)) :: (11,cl1 (V.int o.h)) :: stoAt s 12 14) 17 (nxV pc' id1)
  ((0,opR { o with hd:=some (l,k) } 12 id1) :: (1,hdD o.hd) :: (10,cl1 (pO id1)) :: (11,cl1 (V.int o.h)) :: stoAt { s' with m:=(s'.m.unlock o.th j).1 } 12 17) 18:=by
 have h1:=iPutF o s s' hpc hhd hok hi hp
 have h2:=iRelease o s' (.inl hpc) hhd hlk hk hj hf hm pc' hp'
 obtain ⟨th,t,pc,hd,h,e,ok,ef,bl⟩:=o
 dsimp only at hpc hhd hok h1 h2 ⊢
 subst hpc hhd hok
 generalize (s'.m.unlock th j).1 = m' at *
 by_cases h0 : k = 0
 · rw [if_pos h0] at hp'
   subst hp'
   refine lspec tab_ok mix Tryz.func247 (by kernel_rfl) (by rfl) (by rfl) (by rfl) (by rfl) ?_
   (refine go ?_; try exact True.intro)
   refine callL h1 [some 0,some 1,some 2,none,none,none,none,none,none,none,some 10,some 11,some 12,some 13,some 14,some 15,some 16] [] rfl (go ?_)
   refine callL h2 [some 0,some 1,some 2,none,none,none,none,none,none,none,some 10,some 11,some 12,some 13,some 14,some 15,some 16] [] rfl (go ?_)
   refine .mk [(17,512)] (go ?_);try exact True.intro
 · rw [if_neg h0] at hp'
   subst hp'
   refine lspec tab_ok mix Tryz.func247 (by kernel_rfl) (by rfl) (by rfl) (by rfl) (by rfl) ?_
   (refine go ?_; try exact True.intro)
   refine callL h1 [some 0,some 1,some 2,none,none,none,none,none,none,none,some 10,some 11,some 12,some 13,some 14,some 15,some 16] [] rfl (go ?_)
   refine callL h2 [some 0,some 1,some 2,none,none,none,none,none,none,none,some 10,some 11,some 12,some 13,some 14,some 15,some 16] [] rfl (go ?_)
   refine .mk [(17,512)] (go ?_);try exact True.intro
theorem iPutNo (o : IOp) (s : Sto) {l : List Int} {k j : Nat} (hpc : o.pc = .put) (hhd : o.hd = some (l,k + 1)) (hok : o.ok = false)
 (hlk : l[k]? = some (j : Int)) (hk : k < 10) (hj : j < 4) (hf : s.Fits) (hm : 4 ≤ s.m.mtx.length) (pc' : PC) (hp' : pc' = if k = 0 then .ret else .rel) :
 LSpec Tryz.prog 247 [.p 2 1 0 0] ((0,opR o 12 id1) :: (1,hdD o.hd) :: (2,boxO o.pc id1) :: stoAt s 12 14) 17 (nxV pc' id1)
  ((0,opR { o with hd:=some (l,k) } 12 id1) :: (1,hdD o.hd) :: stoAt { s with m:=(s.m.unlock o.th j).1 } 12 17) 18:=by
 have h2:=iRelease o s (.inl hpc) hhd hlk hk hj hf hm pc' hp'
 obtain ⟨th,t,pc,hd,h,e,ok,ef,bl⟩:=o
 dsimp only at hpc hhd hok h2 ⊢
 subst hpc hhd hok
 generalize (s.m.unlock th j).1 = m' at *
 by_cases h0 : k = 0
 · rw [if_pos h0] at hp'
   subst hp'
   refine lspec tab_ok mix Tryz.func247 (by kernel_rfl) (by rfl) (by rfl) (by rfl) (by rfl) ?_
   (refine go ?_; try exact True.intro)
   refine callB iNoPut (go ?_)
   refine callL h2 [some 0,some 1,some 2,none,none,none,none,none,none,none,none,none,some 12,some 13,some 14,some 15,some 16] [] rfl (go ?_)
   refine .mk [(17,512)] (go ?_);try exact True.intro
 · rw [if_neg h0] at hp'
   subst hp'
   refine lspec tab_ok mix Tryz.func247 (by kernel_rfl) (by rfl) (by rfl) (by rfl) (by rfl) ?_
   (refine go ?_; try exact True.intro)
   refine callB iNoPut (go ?_)
   refine callL h2 [some 0,some 1,some 2,none,none,none,none,none,none,none,none,none,some 12,some 13,some 14,some 15,some 16] [] rfl (go ?_)
   refine .mk [(17,512)] (go ?_);try exact True.intro
set_option maxHeartbeats 4000000
abbrev IStep (o : IOp) (s : Sto) (b : Bool) (o' : IOp) (s' : Sto) : Prop:=LSpec Tryz.prog 47 [.p 0 16 0 0] (iB0 o s) 17 (V.bool b) (iB1 o' s') 29
abbrev IOp.cl (o : IOp) : IOp:={ o with eff:=false,blk:=false }
theorem iS_bad (o : IOp) (s : Sto) (hpc : o.pc = .start) (hhd : o.hd = none) (hok : o.ok = false) (he : o.e = 0 ∧ o.h = 0) (ht : o.t < 0 ∨ 1152921504606846976 < o.t) : IStep o s true { o with pc:=.ret,e:=1,eff:=true,blk:=false } s:=by
 have hc:=iStartBad o.cl s hpc hhd hok ht
 obtain ⟨th,t,pc,hd,h,e,ok,ef,bl⟩:=o
 obtain ⟨he1,he2⟩:=he
 dsimp only [IOp.cl] at hpc hhd hok ht hc he1 he2 ⊢
 subst hok hpc hhd he1 he2
 · refine lspec tab_ok mix Tryz.func47 (by kernel_rfl) (by rfl) (by rfl) (by rfl) (by rfl) ?_
   (refine go ?_; try exact True.intro)
   refine callL hc [some 0,none,none,none,none,none,none,none,none,none,none,none,some 12,some 13,some 14,some 15,some 16] [] rfl (go ?_)
   refine .mk [(17,14)] (go ?_);try exact True.intro
theorem iS_start (o : IOp) (s : Sto) (hpc : o.pc = .start) (hhd : o.hd = none) (hok : o.ok = false) (ht : ¬ (o.t < 0 ∨ 1152921504606846976 < o.t)) (hf : s.Fits) (hw : 0 < s.m.words.length) (pc' : PC) (hp' : pc' = if s.m.word 0 ≤ o.t then .top else .rungs) : IStep o s false { o with pc:=pc',eff:=false,blk:=false } { s with m:=s.m.load o.th 0 }:=by
 have hc:=iStart o.cl s hpc hhd hok ht hf hw pc' hp'
 have hor : pc' = .top ∨ pc' = .rungs:=by rw [hp'];split <;> simp
 obtain ⟨th,t,pc,hd,h,e,ok,ef,bl⟩:=o
 dsimp only [IOp.cl] at hpc hhd hok ht hc ⊢
 clear hp'
 subst hok hpc hhd
 generalize s.m.load th 0 = m' at *
 rcases hor with rfl | rfl
 · refine lspec tab_ok mix Tryz.func47 (by kernel_rfl) (by rfl) (by rfl) (by rfl) (by rfl) ?_
   (refine go ?_; try exact True.intro)
   refine callL hc [some 0,none,none,none,none,none,none,none,none,none,none,none,some 12,some 13,some 14,some 15,some 16] [] rfl (go ?_)
   refine .mk [(17,960),(19,962),(20,963),(21,964),(22,965)] (go ?_);try exact True.intro
 · refine lspec tab_ok mix Tryz.func47 (by kernel_rfl) (by rfl) (by rfl) (by rfl) (by rfl) ?_
   (refine go ?_; try exact True.intro)
   refine callL hc [some 0,none,none,none,none,none,none,none,none,none,none,none,some 12,some 13,some 14,some 15,some 16] [] rfl (go ?_)
   refine .mk [(17,960),(19,962),(20,963),(21,964),(22,965)] (go ?_);try exact True.intro
theorem iS_no (o : IOp) (s : Sto) {i : Nat} {n : PC} (hpc : o.pc.mx = some (i,n)) (hok : o.ok = false) (hf : s.Fits) (hm : 4 ≤ s.m.mtx.length) (hl : (s.m.lock o.th i).2 = false) : IStep o s false { o with eff:=false,blk:=true } { s with m:=(s.m.lock o.th i).1 }:=by
 have hc:=tryNo o.cl s hpc hok hf hm hl
 obtain ⟨th,t,pc,hd,h,e,ok,ef,bl⟩:=o
 dsimp only [IOp.cl] at hpc hok hc ⊢
 subst hok
 generalize (s.m.lock th i).1 = m' at *
 rcases pc_mx hpc with ⟨rfl,rfl,_⟩ | ⟨rfl,rfl,_⟩ | ⟨rfl,rfl,_⟩ | ⟨rfl,rfl,_⟩ <;> (rcases hd with _ | ⟨l,k⟩)
 · refine lspec tab_ok mix Tryz.func47 (by kernel_rfl) (by rfl) (by rfl) (by rfl) (by rfl) ?_
   (refine go ?_; try exact True.intro)
   refine callL hc [some 0,none,some 2,some 3,some 4,some 5,none,none,none,none,none,none,some 12,some 13,some 14,some 15,some 16] [] rfl (go ?_)
   refine .mk [(17,960),(19,2),(20,3),(21,4),(22,5)] (go ?_);try exact True.intro
 · refine lspec tab_ok mix Tryz.func47 (by kernel_rfl) (by rfl) (by rfl) (by rfl) (by rfl) ?_
   (refine go ?_; try exact True.intro)
   refine callL hc [some 0,some 1,some 2,some 3,some 4,some 5,none,none,none,none,none,none,some 12,some 13,some 14,some 15,some 16] [] rfl (go ?_)
   refine .mk [(17,960),(18,1),(19,2),(20,3),(21,4),(22,5)] (go ?_);try exact True.intro
 · refine lspec tab_ok mix Tryz.func47 (by kernel_rfl) (by rfl) (by rfl) (by rfl) (by rfl) ?_
   (refine go ?_; try exact True.intro)
   refine callL hc [some 0,none,some 2,some 3,some 4,some 5,none,none,none,none,none,none,some 12,some 13,some 14,some 15,some 16] [] rfl (go ?_)
   refine .mk [(17,960),(19,2),(20,3),(21,4),(22,5)] (go ?_);try exact True.intro
 · refine lspec tab_ok mix Tryz.func47 (by kernel_rfl) (by rfl) (by rfl) (by rfl) (by rfl) ?_
   (refine go ?_; try exact True.intro)
   refine callL hc [some 0,some 1,some 2,some 3,some 4,some 5,none,none,none,none,none,none,some 12,some 13,some 14,some 15,some 16] [] rfl (go ?_)
   refine .mk [(17,960),(18,1),(19,2),(20,3),(21,4),(22,5)] (go ?_);try exact True.intro
 · refine lspec tab_ok mix Tryz.func47 (by kernel_rfl) (by rfl) (by rfl) (by rfl) (by rfl) ?_
   (refine go ?_; try exact True.intro)
   refine callL hc [some 0,none,some 2,some 3,some 4,some 5,some 6,some 7,some 8,some 9,none,none,some 12,some 13,some 14,some 15,some 16] [] rfl (go ?_)
   refine .mk [(17,960),(19,2),(20,3),(21,4),(22,5),(23,6),(24,7),(25,8),(26,9)] (go ?_);try exact True.intro
 · refine lspec tab_ok mix Tryz.func47 (by kernel_rfl) (by rfl) (by rfl) (by rfl) (by rfl) ?_
   (refine go ?_; try exact True.intro)
   refine callL hc [some 0,some 1,some 2,some 3,some 4,some 5,some 6,some 7,some 8,some 9,none,none,some 12,some 13,some 14,some 15,some 16] [] rfl (go ?_)
   refine .mk [(17,960),(18,1),(19,2),(20,3),(21,4),(22,5),(23,6),(24,7),(25,8),(26,9)] (go ?_);try exact True.intro
 · refine lspec tab_ok mix Tryz.func47 (by kernel_rfl) (by rfl) (by rfl) (by rfl) (by rfl) ?_
   (refine go ?_; try exact True.intro)
   refine callL hc [some 0,none,some 2,some 3,some 4,some 5,none,none,none,none,none,none,some 12,some 13,some 14,some 15,some 16] [] rfl (go ?_)
   refine .mk [(17,960),(19,2),(20,3),(21,4),(22,5)] (go ?_);try exact True.intro
 · refine lspec tab_ok mix Tryz.func47 (by kernel_rfl) (by rfl) (by rfl) (by rfl) (by rfl) ?_
   (refine go ?_; try exact True.intro)
   refine callL hc [some 0,some 1,some 2,some 3,some 4,some 5,none,none,none,none,none,none,some 12,some 13,some 14,some 15,some 16] [] rfl (go ?_)
   refine .mk [(17,960),(18,1),(19,2),(20,3),(21,4),(22,5)] (go ?_);try exact True.intro
theorem iS_arena (o : IOp) (s : Sto) (hpc : o.pc = .arena) (hok : o.ok = false) (hf : s.Fits) (hm : 4 ≤ s.m.mtx.length) (hl : (s.m.lock o.th 3).2 = true) : IStep o s false { o with pc:=.alloc,eff:=false,blk:=false } { s with m:=(s.m.lock o.th 3).1 }:=by
 have hc:=tryArena o.cl s hpc hok hf hm hl
 obtain ⟨th,t,pc,hd,h,e,ok,ef,bl⟩:=o
 dsimp only [IOp.cl] at hpc hok hc ⊢
 subst hok hpc
 generalize (s.m.lock th 3).1 = m' at *
 rcases hd with _ | ⟨l,k⟩
 · refine lspec tab_ok mix Tryz.func47 (by kernel_rfl) (by rfl) (by rfl) (by rfl) (by rfl) ?_
   (refine go ?_; try exact True.intro)
   refine callL hc [some 0,none,some 2,some 3,some 4,some 5,none,none,none,none,none,none,some 12,some 13,some 14,some 15,some 16] [] rfl (go ?_)
   refine .mk [(17,960)] (go ?_);try exact True.intro
 · refine lspec tab_ok mix Tryz.func47 (by kernel_rfl) (by rfl) (by rfl) (by rfl) (by rfl) ?_
   (refine go ?_; try exact True.intro)
   refine callL hc [some 0,some 1,some 2,some 3,some 4,some 5,none,none,none,none,none,none,some 12,some 13,some 14,some 15,some 16] [] rfl (go ?_)
   refine .mk [(17,960),(18,1)] (go ?_);try exact True.intro
theorem iS_lock (o : IOp) (s : Sto) {i : Nat} {n : PC} (hpc : o.pc.mx = some (i,n)) (hi : i < 3) (hok : o.ok = false) (hf : s.Fits) (hm : 4 ≤ s.m.mtx.length) (hl : (s.m.lock o.th i).2 = true) (hh : ∀ l k,o.hd = some (l,k) → l ≠ [] ∧ k ≤ l.length ∧ k < 10) : IStep o s false { o with pc:=n,hd:=hdPush o.hd i,eff:=false,blk:=false } { s with m:=(s.m.lock o.th i).1 }:=by
 have hc:=tryOk o.cl s hpc hi hok hf hm hl hh
 obtain ⟨th,t,pc,hd,h,e,ok,ef,bl⟩:=o
 dsimp only [IOp.cl] at hpc hok hc ⊢
 subst hok
 generalize (s.m.lock th i).1 = m' at *
 rcases pc_mx hpc with ⟨rfl,rfl,rfl⟩ | ⟨rfl,rfl,rfl⟩ | ⟨rfl,rfl,rfl⟩ | ⟨rfl,rfl,rfl⟩
 case inr.inr.inr=>omega
 all_goals (rcases hd with _ | ⟨l,k⟩)
 · refine lspec tab_ok mix Tryz.func47 (by kernel_rfl) (by rfl) (by rfl) (by rfl) (by rfl) ?_
   (refine go ?_; try exact True.intro)
   refine callL hc [some 0,none,some 2,some 3,some 4,some 5,none,none,none,none,none,none,some 12,some 13,some 14,some 15,some 16] [] rfl (go ?_)
   refine .mk [(17,960),(18,961)] (go ?_);try exact True.intro
 · refine lspec tab_ok mix Tryz.func47 (by kernel_rfl) (by rfl) (by rfl) (by rfl) (by rfl) ?_
   (refine go ?_; try exact True.intro)
   refine callL hc [some 0,some 1,some 2,some 3,some 4,some 5,none,none,none,none,none,none,some 12,some 13,some 14,some 15,some 16] [] rfl (go ?_)
   refine .mk [(17,960),(18,961)] (go ?_);try exact True.intro
 · refine lspec tab_ok mix Tryz.func47 (by kernel_rfl) (by rfl) (by rfl) (by rfl) (by rfl) ?_
   (refine go ?_; try exact True.intro)
   refine callL hc [some 0,none,some 2,some 3,some 4,some 5,none,none,none,none,none,none,some 12,some 13,some 14,some 15,some 16] [] rfl (go ?_)
   refine .mk [(17,960),(18,961)] (go ?_);try exact True.intro
 · refine lspec tab_ok mix Tryz.func47 (by kernel_rfl) (by rfl) (by rfl) (by rfl) (by rfl) ?_
   (refine go ?_; try exact True.intro)
   refine callL hc [some 0,some 1,some 2,some 3,some 4,some 5,none,none,none,none,none,none,some 12,some 13,some 14,some 15,some 16] [] rfl (go ?_)
   refine .mk [(17,960),(18,961)] (go ?_);try exact True.intro
 · refine lspec tab_ok mix Tryz.func47 (by kernel_rfl) (by rfl) (by rfl) (by rfl) (by rfl) ?_
   (refine go ?_; try exact True.intro)
   refine callL hc [some 0,none,some 2,some 3,some 4,some 5,some 6,some 7,some 8,some 9,none,none,some 12,some 13,some 14,some 15,some 16] [] rfl (go ?_)
   refine .mk [(17,960),(18,961),(19,6),(20,7),(21,8),(22,9)] (go ?_);try exact True.intro
 · refine lspec tab_ok mix Tryz.func47 (by kernel_rfl) (by rfl) (by rfl) (by rfl) (by rfl) ?_
   (refine go ?_; try exact True.intro)
   refine callL hc [some 0,some 1,some 2,some 3,some 4,some 5,some 6,some 7,some 8,some 9,none,none,some 12,some 13,some 14,some 15,some 16] [] rfl (go ?_)
   refine .mk [(17,960),(18,961),(19,6),(20,7),(21,8),(22,9)] (go ?_);try exact True.intro
theorem iS_conf (o : IOp) (s : Sto) {l : List Int} {k : Nat} (hpc : o.pc = .conf) (hhd : o.hd = some (l,k)) (hok : o.ok = false) (hf : s.Fits) (hw : 0 < s.m.words.length) (pc' : PC) (hp' : pc' = if s.m.word 0 ≤ o.t then .arena else .undo) : IStep o s false { o with pc:=pc',eff:=false,blk:=false } { s with m:=s.m.load o.th 0 }:=by
 have hc:=iConf o.cl s hpc hhd hok hf hw pc' hp'
 have hor : pc' = .arena ∨ pc' = .undo:=by rw [hp'];split <;> simp
 obtain ⟨th,t,pc,hd,h,e,ok,ef,bl⟩:=o
 dsimp only [IOp.cl] at hpc hhd hok hc ⊢
 clear hp'
 subst hok hpc hhd
 generalize s.m.load th 0 = m' at *
 rcases hor with rfl | rfl
 · refine lspec tab_ok mix Tryz.func47 (by kernel_rfl) (by rfl) (by rfl) (by rfl) (by rfl) ?_
   (refine go ?_; try exact True.intro)
   refine callL hc [some 0,some 1,none,none,none,none,none,none,none,none,none,none,some 12,some 13,some 14,some 15,some 16] [] rfl (go ?_)
   refine .mk [(17,960),(19,962),(20,963),(21,964),(22,965),(18,1)] (go ?_);try exact True.intro
 · refine lspec tab_ok mix Tryz.func47 (by kernel_rfl) (by rfl) (by rfl) (by rfl) (by rfl) ?_
   (refine go ?_; try exact True.intro)
   refine callL hc [some 0,some 1,none,none,none,none,none,none,none,none,none,none,some 12,some 13,some 14,some 15,some 16] [] rfl (go ?_)
   refine .mk [(17,960),(19,962),(20,963),(21,964),(22,965),(18,1)] (go ?_);try exact True.intro
theorem iS_undo (o : IOp) (s : Sto) {l : List Int} {k j : Nat} (hpc : o.pc = .undo) (hhd : o.hd = some (l,k + 1)) (hok : o.ok = false) (hlk : l[k]? = some (j : Int)) (hk : k < 10) (hj : j < 4) (hf : s.Fits) (hm : 4 ≤ s.m.mtx.length) : IStep o s false { o with pc:=.rungs,hd:=some (l,k),eff:=false,blk:=false } { s with m:=(s.m.unlock o.th j).1 }:=by
 have hc:=iUndo o.cl s hpc hhd hok hlk hk hj hf hm
 obtain ⟨th,t,pc,hd,h,e,ok,ef,bl⟩:=o
 dsimp only [IOp.cl] at hpc hhd hok hc ⊢
 subst hok hpc hhd
 generalize (s.m.unlock th j).1 = m' at *
 · refine lspec tab_ok mix Tryz.func47 (by kernel_rfl) (by rfl) (by rfl) (by rfl) (by rfl) ?_
   (refine go ?_; try exact True.intro)
   refine callL hc [some 0,some 1,some 2,none,none,none,none,none,none,none,none,none,some 12,some 13,some 14,some 15,some 16] [] rfl (go ?_)
   refine .mk [(17,960),(19,962),(20,963),(21,964),(22,965),(18,1)] (go ?_);try exact True.intro
theorem iS_choose (o : IOp) (s : Sto) (s' : Sto) {l : List Int} {k : Nat} {z : Bool} (hpc : o.pc = .choose) (hhd : o.hd = some (l,k)) (hok : o.ok = false)
 (ha : LSpec Tryz.prog 208 [.p 0 10 0 0,V.int o.th,V.int o.t] (stoB s 2) 5 (V.bool z) (stoB s' 2) 5) (pc' : PC) (hp' : pc' = if z = true then .arena else .bottom) : IStep o s false { o with pc:=pc',eff:=false,blk:=false } s':=by
 have hc:=iChoose o.cl s s' hpc hhd hok ha pc' hp'
 have hor : pc' = .arena ∨ pc' = .bottom:=by rw [hp'];split <;> simp
 obtain ⟨th,t,pc,hd,h,e,ok,ef,bl⟩:=o
 dsimp only [IOp.cl] at hpc hhd hok hc ⊢
 clear hp' ha
 subst hok hpc hhd
 rcases hor with rfl | rfl
 · refine lspec tab_ok mix Tryz.func47 (by kernel_rfl) (by rfl) (by rfl) (by rfl) (by rfl) ?_
   (refine go ?_; try exact True.intro)
   refine callL hc [some 0,some 1,none,none,none,none,none,none,none,none,none,none,some 12,some 13,some 14,some 15,some 16] [] rfl (go ?_)
   refine .mk [(19,962),(20,963),(21,964),(22,965),(17,14),(18,1)] (go ?_);try exact True.intro
 · refine lspec tab_ok mix Tryz.func47 (by kernel_rfl) (by rfl) (by rfl) (by rfl) (by rfl) ?_
   (refine go ?_; try exact True.intro)
   refine callL hc [some 0,some 1,none,none,none,none,none,none,none,none,none,none,some 12,some 13,some 14,some 15,some 16] [] rfl (go ?_)
   refine .mk [(19,962),(20,963),(21,964),(22,965),(23,966),(24,967),(25,968),(26,969),(17,14),(18,1)] (go ?_);try exact True.intro
theorem iS_alloc (o : IOp) (s : Sto) (s' : Sto) {l : List Int} {k : Nat} {h' : Int} (hpc : o.pc = .alloc) (hhd : o.hd = some (l,k)) (hok : o.ok = false)
 (ha : LSpec Tryz.prog 102 [.p 0 10 0 0,V.int o.th,V.int o.t] (stoB s 2) 5 (.tup [V.int h',V.bool true]) (stoB s' 5) 6) : IStep o s false { o with pc:=.leave,h:=h',ok:=true,eff:=true,blk:=false } s':=by
 have hc:=iAlloc o.cl s s' hpc hhd hok ha
 obtain ⟨th,t,pc,hd,h,e,ok,ef,bl⟩:=o
 dsimp only [IOp.cl] at hpc hhd hok hc ⊢
 clear ha
 subst hok hpc hhd
 · refine lspec tab_ok mix Tryz.func47 (by kernel_rfl) (by rfl) (by rfl) (by rfl) (by rfl) ?_
   (refine go ?_; try exact True.intro)
   refine callL hc [some 0,some 1,none,none,none,none,none,none,none,none,none,none,some 12,some 13,some 14,some 15,some 16] [] rfl (go ?_)
   refine .mk [(17,960),(27,970),(28,971),(18,1)] (go ?_);try exact True.intro
theorem iS_full (o : IOp) (s : Sto) (s' : Sto) {l : List Int} {k : Nat} (hpc : o.pc = .alloc) (hhd : o.hd = some (l,k)) (hok : o.ok = false)
 (ha : LSpec Tryz.prog 102 [.p 0 10 0 0,V.int o.th,V.int o.t] (stoB s 2) 5 (.tup [V.int 0,V.bool false]) (stoB s' 5) 6) : IStep o s false { o with pc:=.leave,e:=10,eff:=true,blk:=false } s':=by
 have hc:=iAllocNo o.cl s s' hpc hhd hok ha
 obtain ⟨th,t,pc,hd,h,e,ok,ef,bl⟩:=o
 dsimp only [IOp.cl] at hpc hhd hok hc ⊢
 clear ha
 subst hok hpc hhd
 · refine lspec tab_ok mix Tryz.func47 (by kernel_rfl) (by rfl) (by rfl) (by rfl) (by rfl) ?_
   (refine go ?_; try exact True.intro)
   refine callL hc [some 0,some 1,none,none,none,none,none,none,none,none,none,none,some 12,some 13,some 14,some 15,some 16] [] rfl (go ?_)
   refine .mk [(17,960),(18,1)] (go ?_);try exact True.intro
theorem iS_leave (o : IOp) (s : Sto) {l : List Int} {k : Nat} (hpc : o.pc = .leave) (hhd : o.hd = some (l,k)) (hf : s.Fits) (hm : 4 ≤ s.m.mtx.length) : IStep o s false { o with pc:=.put,eff:=false,blk:=false } { s with m:=(s.m.unlock o.th 3).1 }:=by
 have hc:=iLeave o.cl s hpc hhd hf hm
 obtain ⟨th,t,pc,hd,h,e,ok,ef,bl⟩:=o
 dsimp only [IOp.cl] at hpc hhd hc ⊢
 subst hpc hhd
 generalize (s.m.unlock th 3).1 = m' at *
 cases ok
 · refine lspec tab_ok mix Tryz.func47 (by kernel_rfl) (by rfl) (by rfl) (by rfl) (by rfl) ?_
   (refine go ?_; try exact True.intro)
   refine callL hc [some 0,some 1,none,none,none,none,none,none,none,none,none,none,some 12,some 13,some 14,some 15,some 16] [] rfl (go ?_)
   refine .mk [(17,960),(19,962),(18,1)] (go ?_);try exact True.intro
 · refine lspec tab_ok mix Tryz.func47 (by kernel_rfl) (by rfl) (by rfl) (by rfl) (by rfl) ?_
   (refine go ?_; try exact True.intro)
   refine callL hc [some 0,some 1,none,none,none,none,none,none,none,none,some 10,some 11,some 12,some 13,some 14,some 15,some 16] [] rfl (go ?_)
   refine .mk [(17,960),(19,962),(18,1),(27,10),(28,11)] (go ?_);try exact True.intro
theorem iS_put (o : IOp) (s : Sto) (s' : Sto) {l : List Int} {k i j : Nat} (hpc : o.pc = .put) (hhd : o.hd = some (l,k + 1)) (hok : o.ok = true) (hi : slotH o.h = (i : Int))
 (hp : LSpec Tryz.prog 104 [.p 0 10 0 0,V.int o.th,V.int i] (stoB s 2) 5 (.tup []) (stoB s' 2) 5) (hlk : l[k]? = some (j : Int)) (hk : k < 10) (hj : j < 4) (hf : s'.Fits) (hm : 4 ≤ s'.m.mtx.length) (pc' : PC) (hp' : pc' = if k = 0 then .ret else .rel) : IStep o s (isRet pc') { o with pc:=pc',hd:=some (l,k),eff:=false,blk:=false } { s' with m:=(s'.m.unlock o.th j).1 }:=by
 have hc:=iPut o.cl s s' hpc hhd hok hi hp hlk hk hj hf hm pc' hp'
 have hor : (k = 0 ∧ pc' = .ret) ∨ (pc' = .rel ∧ k ≠ 0):=by rw [hp'];split <;> simp_all
 obtain ⟨th,t,pc,hd,h,e,ok,ef,bl⟩:=o
 dsimp only [IOp.cl] at hpc hhd hok hc ⊢
 clear hp' hp
 subst hpc hhd hok
 generalize (s'.m.unlock th j).1 = m' at *
 rcases hor with ⟨rfl,rfl⟩ | ⟨rfl,_⟩
 · refine lspec tab_ok mix Tryz.func47 (by kernel_rfl) (by rfl) (by rfl) (by rfl) (by rfl) ?_
   (refine go ?_; try exact True.intro)
   refine callL hc [some 0,some 1,some 2,none,none,none,none,none,none,none,some 10,some 11,some 12,some 13,some 14,some 15,some 16] [] rfl (go ?_)
   refine .mk [(17,960),(18,1),(27,10),(28,11)] (go ?_);try exact True.intro
 · refine lspec tab_ok mix Tryz.func47 (by kernel_rfl) (by rfl) (by rfl) (by rfl) (by rfl) ?_
   (refine go ?_; try exact True.intro)
   refine callL hc [some 0,some 1,some 2,none,none,none,none,none,none,none,some 10,some 11,some 12,some 13,some 14,some 15,some 16] [] rfl (go ?_)
   refine .mk [(17,960),(18,1),(27,10),(28,11)] (go ?_);try exact True.intro
theorem iS_putNo (o : IOp) (s : Sto) {l : List Int} {k j : Nat} (hpc : o.pc = .put) (hhd : o.hd = some (l,k + 1)) (hok : o.ok = false) (hlk : l[k]? = some (j : Int)) (hk : k < 10) (hj : j < 4) (hf : s.Fits) (hm : 4 ≤ s.m.mtx.length) (pc' : PC) (hp' : pc' = if k = 0 then .ret else .rel) : IStep o s (isRet pc') { o with pc:=pc',hd:=some (l,k),eff:=false,blk:=false } { s with m:=(s.m.unlock o.th j).1 }:=by
 have hc:=iPutNo o.cl s hpc hhd hok hlk hk hj hf hm pc' hp'
 have hor : (k = 0 ∧ pc' = .ret) ∨ (pc' = .rel ∧ k ≠ 0):=by rw [hp'];split <;> simp_all
 obtain ⟨th,t,pc,hd,h,e,ok,ef,bl⟩:=o
 dsimp only [IOp.cl] at hpc hhd hok hc ⊢
 clear hp'
 subst hpc hhd hok
 generalize (s.m.unlock th j).1 = m' at *
 rcases hor with ⟨rfl,rfl⟩ | ⟨rfl,_⟩
 · refine lspec tab_ok mix Tryz.func47 (by kernel_rfl) (by rfl) (by rfl) (by rfl) (by rfl) ?_
   (refine go ?_; try exact True.intro)
   refine callL hc [some 0,some 1,some 2,none,none,none,none,none,none,none,none,none,some 12,some 13,some 14,some 15,some 16] [] rfl (go ?_)
   refine .mk [(17,960),(18,1)] (go ?_);try exact True.intro
 · refine lspec tab_ok mix Tryz.func47 (by kernel_rfl) (by rfl) (by rfl) (by rfl) (by rfl) ?_
   (refine go ?_; try exact True.intro)
   refine callL hc [some 0,some 1,some 2,none,none,none,none,none,none,none,none,none,some 12,some 13,some 14,some 15,some 16] [] rfl (go ?_)
   refine .mk [(17,960),(18,1)] (go ?_);try exact True.intro
theorem iS_rel (o : IOp) (s : Sto) {l : List Int} {k j : Nat} (hpc : o.pc = .rel) (hhd : o.hd = some (l,k + 1)) (hlk : l[k]? = some (j : Int)) (hk : k < 10) (hj : j < 4) (hf : s.Fits) (hm : 4 ≤ s.m.mtx.length) (pc' : PC) (hp' : pc' = if k = 0 then .ret else .rel) : IStep o s (isRet pc') { o with pc:=pc',hd:=some (l,k),eff:=false,blk:=false } { s with m:=(s.m.unlock o.th j).1 }:=by
 have hc:=iRelease o.cl s (.inr hpc) hhd hlk hk hj hf hm pc' hp'
 have hor : (k = 0 ∧ pc' = .ret) ∨ (pc' = .rel ∧ k ≠ 0):=by rw [hp'];split <;> simp_all
 obtain ⟨th,t,pc,hd,h,e,ok,ef,bl⟩:=o
 dsimp only [IOp.cl] at hpc hhd hc ⊢
 clear hp'
 subst hpc hhd
 generalize (s.m.unlock th j).1 = m' at *
 rcases hor with ⟨rfl,rfl⟩ | ⟨rfl,_⟩ <;> cases ok
 · refine lspec tab_ok mix Tryz.func47 (by kernel_rfl) (by rfl) (by rfl) (by rfl) (by rfl) ?_
   (refine go ?_; try exact True.intro)
   refine callL hc [some 0,some 1,none,none,none,none,none,none,none,none,none,none,some 12,some 13,some 14,some 15,some 16] [] rfl (go ?_)
   refine .mk [(17,960),(18,1)] (go ?_);try exact True.intro
 · refine lspec tab_ok mix Tryz.func47 (by kernel_rfl) (by rfl) (by rfl) (by rfl) (by rfl) ?_
   (refine go ?_; try exact True.intro)
   refine callL hc [some 0,some 1,none,none,none,none,none,none,none,none,some 10,some 11,some 12,some 13,some 14,some 15,some 16] [] rfl (go ?_)
   refine .mk [(17,960),(18,1),(27,10),(28,11)] (go ?_);try exact True.intro
 · refine lspec tab_ok mix Tryz.func47 (by kernel_rfl) (by rfl) (by rfl) (by rfl) (by rfl) ?_
   (refine go ?_; try exact True.intro)
   refine callL hc [some 0,some 1,none,none,none,none,none,none,none,none,none,none,some 12,some 13,some 14,some 15,some 16] [] rfl (go ?_)
   refine .mk [(17,960),(18,1)] (go ?_);try exact True.intro
 · refine lspec tab_ok mix Tryz.func47 (by kernel_rfl) (by rfl) (by rfl) (by rfl) (by rfl) ?_
   (refine go ?_; try exact True.intro)
   refine callL hc [some 0,some 1,none,none,none,none,none,none,none,none,some 10,some 11,some 12,some 13,some 14,some 15,some 16] [] rfl (go ?_)
   refine .mk [(17,960),(18,1),(27,10),(28,11)] (go ?_);try exact True.intro
inductive Shp : PC → Option (List Int × Nat) → Prop
 | start : Shp .start none
 | top : Shp .top none
 | conf : Shp .conf (some ([0],1))
 | undo : Shp .undo (some ([0],1))
 | r0 : Shp .rungs none
 | r1 : Shp .rungs (some ([0],0))
 | choose : Shp .choose (some ([1],1))
 | bottom : Shp .bottom (some ([1],1))
 | a0 : Shp .arena (some ([0],1))
 | a1 : Shp .arena (some ([1],1))
 | a2 : Shp .arena (some ([1,2],2))
 | l0 : Shp .alloc (some ([0],1))
 | l1 : Shp .alloc (some ([1],1))
 | l2 : Shp .alloc (some ([1,2],2))
 | v0 : Shp .leave (some ([0],1))
 | v1 : Shp .leave (some ([1],1))
 | v2 : Shp .leave (some ([1,2],2))
 | p0 : Shp .put (some ([0],1))
 | p1 : Shp .put (some ([1],1))
 | p2 : Shp .put (some ([1,2],2))
 | rel : Shp .rel (some ([1,2],1))
def PC.late : PC → Bool
 | .leave | .put | .rel | .ret=>true
 | _=>false
structure IOk (n : Nat) (A : Nat → Prop) (o : IOp) : Prop where
 shp : Shp o.pc o.hd
 th0 : 0 ≤ o.th
 early : o.pc.late = false → o.ok = false ∧ o.e = 0 ∧ o.h = 0
 tm : o.pc ≠ .start → 0 ≤ o.t ∧ o.t ≤ 1152921504606846976
 full : o.ok = false → o.pc.late = true → o.e = 10 ∧ o.h = 0
 won : o.ok = true → o.e = 0
 hand : o.ok = true → (o.pc = .leave ∨ o.pc = .put) → ∃ i : Nat,i < n ∧ slotH o.h = i ∧ A i
theorem IOk.new {n : Nat} {A : Nat → Prop} {th : Int} (h : 0 ≤ th) (t : Int) : IOk n A (.new th t):=
 ⟨.start,h,fun _=>⟨rfl,rfl,rfl⟩,fun x=>absurd rfl x,fun _ x=>(by cases x),fun x=>(by cases x),fun x=>(by cases x)⟩
theorem iStepC {n : Nat} {s : Sto} {S : List Item} {A : Nat → Prop} {K : Nat} (h : SB n s S A K) (hK : K + 1 ≤ 20000) (ht : s.m.Thr) {o : IOp} (ho : IOk n A o) :
 IStep o s (o.step s).1.done (o.step s).1 (o.step s).2:=by
 have hf:=h.fits
 have hm : 4 ≤ s.m.mtx.length:=by rw [h.nm];exact Nat.le_refl _
 have hw : 0 < s.m.words.length:=by rw [h.nw];omega
 obtain ⟨shp,th0,early,tm,full,won,hand⟩:=ho
 obtain ⟨th,t,pc,hd,hh,e,ok,ef,bl⟩:=o
 dsimp only at shp th0 early tm full won hand
 have lock : ∀ (i : Nat) (p n : PC),p.mx = some (i,n) → i < 4 → pc = p → ok = false → (i = 3 ∨ ∀ l k,hd = some (l,k) → l ≠ [] ∧ k ≤ l.length ∧ k < 10) →
  IStep ⟨th,t,pc,hd,hh,e,ok,ef,bl⟩ s ((IOp.lock ⟨th,t,pc,hd,hh,e,ok,ef,bl⟩ s i n).1.done) (IOp.lock ⟨th,t,pc,hd,hh,e,ok,ef,bl⟩ s i n).1 (IOp.lock ⟨th,t,pc,hd,hh,e,ok,ef,bl⟩ s i n).2:=by
  rintro i p n hmx hi rfl hok hhd
  unfold IOp.lock
  dsimp only
  by_cases hl : (s.m.lock th i).2 = true
  · rw [if_pos hl]
    by_cases h3 : i = 3
    · subst h3
      rcases pc_mx hmx with ⟨_,a,_⟩ | ⟨_,a,_⟩ | ⟨_,a,_⟩ | ⟨rfl,_,rfl⟩
      · omega
      · omega
      · omega
      rw [if_pos rfl]
      exact iS_arena ⟨th,t,.arena,hd,hh,e,ok,ef,bl⟩ s rfl hok hf hm hl
    · rw [if_neg h3]
      have:=iS_lock ⟨th,t,pc,hd,hh,e,ok,ef,bl⟩ s hmx (by omega) hok hf hm hl (hhd.resolve_left h3)
      rcases pc_mx hmx with ⟨rfl,rfl,rfl⟩ | ⟨rfl,rfl,rfl⟩ | ⟨rfl,rfl,rfl⟩ | ⟨rfl,rfl,rfl⟩ <;> exact this
  · rw [if_neg hl]
    have hl : (s.m.lock th i).2 = false:=by simpa using hl
    have:=iS_no ⟨th,t,pc,hd,hh,e,ok,ef,bl⟩ s hmx hok hf hm hl
    rcases pc_mx hmx with ⟨rfl,rfl,rfl⟩ | ⟨rfl,rfl,rfl⟩ | ⟨rfl,rfl,rfl⟩ | ⟨rfl,rfl,rfl⟩ <;> exact this
 have one : ∀ (a : Int) (l : List Int) (k : Nat),hd = some ([a],1) → ∀ l k,hd = some (l,k) → l ≠ [] ∧ k ≤ l.length ∧ k < 10:=fun a _ _ e l k e2=>by
  rw [e] at e2;cases e2;simp
 have alloc : pc = .alloc → ok = false → ∀ l k,hd = some (l,k) → IStep ⟨th,t,pc,hd,hh,e,ok,ef,bl⟩ s (IOp.step ⟨th,t,pc,hd,hh,e,ok,ef,bl⟩ s).1.done (IOp.step ⟨th,t,pc,hd,hh,e,ok,ef,bl⟩ s).1 (IOp.step ⟨th,t,pc,hd,hh,e,ok,ef,bl⟩ s).2:=by
  rintro rfl rfl l k rfl
  have ha:=(h.alloc2 ht th t th0).1
  show IStep _ s (if (s.allocF th t).2.2 = true then _ else _ : IOp × Sto).1.done (if (s.allocF th t).2.2 = true then _ else _ : IOp × Sto).1 (if (s.allocF th t).2.2 = true then _ else _ : IOp × Sto).2
  cases hz : (s.allocF th t).2.2 with
  | true=>
   rw [if_pos rfl]
   rw [hz] at ha
   exact iS_alloc ⟨th,t,.alloc,some (l,k),hh,e,false,ef,bl⟩ s _ rfl rfl rfl ha
  | false=>
   rw [if_neg (by decide)]
   rw [hz] at ha
   have h0 : (s.allocF th t).2.1 = 0:=by
    unfold Sto.allocF at hz ⊢
    split at hz
    · rfl
    · cases hz
   rw [h0] at ha
   exact iS_full ⟨th,t,.alloc,some (l,k),hh,e,false,ef,bl⟩ s _ rfl rfl rfl ha
 have unl : ∀ (pc' : PC),(pc = .put ∨ pc = .rel) → ∀ l (k j : Nat),hd = some (l,k + 1) → l[k]? = some (j : Int) → hdLast hd = j → k < 10 → j < 4 → pc' = (if k = 0 then .ret else .rel) →
  IStep ⟨th,t,pc,hd,hh,e,ok,ef,bl⟩ s (isRet pc') { (⟨th,t,pc,hd,hh,e,ok,ef,bl⟩ : IOp) with pc:=pc',hd:=some (l,k),eff:=false,blk:=false } (if pc = .put then { (IOp.putS ⟨th,t,pc,hd,hh,e,ok,ef,bl⟩ s) with m:=((IOp.putS ⟨th,t,pc,hd,hh,e,ok,ef,bl⟩ s).m.unlock th j).1 } else { s with m:=(s.m.unlock th j).1 }):=by
  rintro pc' hpc l k j rfl hlk hlast hk hj hp'
  rcases hpc with rfl | rfl
  · rw [if_pos rfl]
    unfold IOp.putS
    cases ok with
    | true=>
     rw [if_pos rfl]
     obtain ⟨i,hi,hs,ha⟩:=hand rfl (.inr rfl)
     have hp:=(h.put2 ht th th0 ha hK).1
     obtain ⟨q1,_,_⟩:=h.toSOk.put th ha hK
     dsimp only at hs ⊢
     rw [show (slotH hh).toNat = i by omega]
     have tt:=touches_same th (s.putL (s.slot i).time) s.m
     have hpl : (s.putL (s.slot i).time).length ≤ 2:=by unfold Sto.putL;split;simp;split <;> simp
     have hv:=h.viol
     have hlg:=h.log
     have hkb:=h.kb
     refine iS_put ⟨th,t,.put,some (l,k + 1),hh,e,true,ef,bl⟩ s _ rfl rfl rfl hs hp hlk hk hj ⟨⟨?_,?_,?_,?_⟩,hf.slots,hf.idle,hf.next⟩ (by rw [q1.nm];exact Nat.le_refl _) pc' hp'
     · show (s.m.touches th _).log.length < _;rw [tt.2.2.1];exact hf.mem.log
     · show 0 ≤ (s.m.touches th _).viol ∧ (s.m.touches th _).viol < _;omega
     · show (s.m.touches th _).words.length < _;rw [tt.1];exact hf.mem.words
     · show (s.m.touches th _).mtx.length < _;rw [tt.2.1];exact hf.mem.mtx
    | false=>
     rw [if_neg Bool.false_ne_true]
     exact iS_putNo ⟨th,t,.put,some (l,k + 1),hh,e,false,ef,bl⟩ s rfl rfl rfl hlk hk hj hf hm pc' hp'
  · rw [if_neg (by decide)]
    exact iS_rel ⟨th,t,.rel,some (l,k + 1),hh,e,ok,ef,bl⟩ s rfl rfl hlk hk hj hf hm pc' hp'
 cases shp with
 | start=>
  obtain ⟨rfl,rfl,rfl⟩:=early rfl
  by_cases hb : t < 0 ∨ 1152921504606846976 < t
  · have:=iS_bad ⟨th,t,.start,none,0,0,false,ef,bl⟩ s rfl rfl rfl ⟨rfl,rfl⟩ hb
    unfold IOp.step
    dsimp only
    rw [if_pos hb]
    exact this
  · have:=iS_start ⟨th,t,.start,none,0,0,false,ef,bl⟩ s rfl rfl rfl hb hf hw _ rfl
    unfold IOp.step
    dsimp only
    rw [if_neg hb]
    dsimp only at this ⊢
    by_cases hc : s.m.word 0 ≤ t
    · rw [if_pos hc] at this ⊢;exact this
    · rw [if_neg hc] at this ⊢;exact this
 | top=>exact lock 0 .top .conf rfl (by omega) rfl (early rfl).1 (.inr fun l k e=>by cases e)
 | r0=>exact lock 1 .rungs .choose rfl (by omega) rfl (early rfl).1 (.inr fun l k e=>by cases e)
 | r1=>exact lock 1 .rungs .choose rfl (by omega) rfl (early rfl).1 (.inr fun l k e=>by cases e;simp)
 | bottom=>exact lock 2 .bottom .arena rfl (by omega) rfl (early rfl).1 (.inr fun l k e=>by cases e;simp)
 | a0=>exact lock 3 .arena .alloc rfl (by omega) rfl (early rfl).1 (.inl rfl)
 | a1=>exact lock 3 .arena .alloc rfl (by omega) rfl (early rfl).1 (.inl rfl)
 | a2=>exact lock 3 .arena .alloc rfl (by omega) rfl (early rfl).1 (.inl rfl)
 | conf=>
  have:=iS_conf ⟨th,t,.conf,some ([0],1),hh,e,ok,ef,bl⟩ s rfl rfl (early rfl).1 hf hw _ rfl
  unfold IOp.step
  dsimp only at this ⊢
  by_cases hc : s.m.word 0 ≤ t
  · rw [if_pos hc] at this ⊢;exact this
  · rw [if_neg hc] at this ⊢;exact this
 | undo=>exact iS_undo ⟨th,t,.undo,some ([0],1),hh,e,ok,ef,bl⟩ s (k:=0) (j:=0) rfl rfl (early rfl).1 rfl (by omega) (by omega) hf hm
 | choose=>
  have ha:=(h.accepts2 ht th t th0).1
  have:=iS_choose ⟨th,t,.choose,some ([1],1),hh,e,ok,ef,bl⟩ s _ rfl rfl (early rfl).1 ha _ rfl
  unfold IOp.step
  dsimp only at this ⊢
  cases hc : (s.accepts th t).2 with
  | true=>rw [hc,if_pos rfl] at this;rw [if_pos rfl];exact this
  | false=>rw [hc,if_neg (by decide)] at this;rw [if_neg (by decide)];exact this
 | l0=>exact alloc rfl (early rfl).1 _ _ rfl
 | l1=>exact alloc rfl (early rfl).1 _ _ rfl
 | l2=>exact alloc rfl (early rfl).1 _ _ rfl
 | v0=>exact iS_leave ⟨th,t,.leave,some ([0],1),hh,e,ok,ef,bl⟩ s rfl rfl hf hm
 | v1=>exact iS_leave ⟨th,t,.leave,some ([1],1),hh,e,ok,ef,bl⟩ s rfl rfl hf hm
 | v2=>exact iS_leave ⟨th,t,.leave,some ([1,2],2),hh,e,ok,ef,bl⟩ s rfl rfl hf hm
 | p0=>exact unl .ret (.inl rfl) [0] 0 0 rfl rfl rfl (by omega) (by omega) rfl
 | p1=>exact unl .ret (.inl rfl) [1] 0 1 rfl rfl rfl (by omega) (by omega) rfl
 | p2=>exact unl .rel (.inl rfl) [1,2] 1 2 rfl rfl rfl (by omega) (by omega) rfl
 | rel=>exact unl .ret (.inr rfl) [1,2] 0 1 rfl rfl rfl (by omega) (by omega) rfl
end Go.Proofs.YtcffiehcdadimaaGreat.Abs
