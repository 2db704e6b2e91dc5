/- The reference's shared memory: the same data, other blocks. -/
import Derived.Test.YtdjnjchpgccbiaaGreatHA
import Derived.Test.YtdjnjchpgccbiaaGreatHB
namespace Go.Proofs.YtdjnjchpgccbiaaGreat.Abs
open Go.Proofs
set_option maxRecDepth 10000
set_option linter.unusedSimpArgs false
set_option linter.unusedVariables false
def holdI (p : Bool × Int) : Int:=if p.1 = true then p.2 else -1
def rmemR (m : Mem) (l w x : Nat) : B:=.rows 4 [[.ac w 1 m.words.length,.ac x 1 m.mtx.length,.ac l 6 m.log.length,V.int m.viol]]
def rmtxD (m : Mem) : B:=.dat 1 ((m.mtx.map holdI).map intD)
def rmemB (m : Mem) (l : Nat) : List (Nat × B):=[(0,rmemR m l 2 3),(l,logD m),(2,wordsD m),(3,rmtxD m)]
def Mem.Thr (m : Mem) : Prop:=∀ i,(m.held i).1 = true → 0 ≤ (m.held i).2
theorem Mem.hold_get {m : Mem} {i : Nat} (h : i < m.mtx.length) : (m.mtx.map holdI)[i]? = some (holdI (m.held i)):=by
 rw [List.getElem?_map,Mem.held_get h];rfl
theorem hold_held {m : Mem} (ht : m.Thr) (i : Nat) : (!decide (holdI (m.held i) = -1)) = (m.held i).1:=by
 unfold holdI
 cases hb : (m.held i).1 with
 | false=>rfl
 | true=>
  have:=ht i hb
  rw [if_pos rfl,decide_eq_false (by omega)];rfl
theorem rHeldC (m : Mem) (i : Nat) (h : i < m.mtx.length) (ht : m.Thr) : LSpec Tryz.prog 196 [.p 0 4 0 0,V.int i] (rmemB m 1) 4 (V.bool (m.held i).1) (rmemB m 1) 4:=by
 have hg:=Mem.hold_get h
 have hh:=hold_held ht i
 have hl : (m.mtx.map holdI).length = m.mtx.length:=List.length_map ..
 refine lspec tab_ok mix Tryz.func196 (by kernel_rfl) (by rfl) (by rfl) (by rfl) (by rfl) ?_
 (refine go ?_; try exact True.intro)
 refine atB h (go ?_)
 refine getB hg (go ?_)
 rw [hh]
 refine .mk [] (go ?_);try exact True.intro
theorem rSetC (m : Mem) (i : Nat) (h : i < m.mtx.length) (held ok : Bool) (th : Int) : LSpec Tryz.prog 197 [.p 0 4 0 0,V.int i,V.bool held,V.bool ok,V.int th] (rmemB m 1) 4 (.tup []) (rmemB { m with mtx:=if ok = true then m.mtx.set i (if held = true then (true,th) else (false,0)) else m.mtx } 1) 4:=by
 have hg:=Mem.hold_get h
 cases ok with
 | false=>
  rw [if_neg (by simp)]
  refine lspec tab_ok mix Tryz.func197 (by kernel_rfl) (by rfl) (by rfl) (by rfl) (by rfl) ?_
  (refine go ?_; try exact True.intro)
  refine .mk [] (go ?_);try exact True.intro
 | true=>
  rw [if_pos rfl]
  cases held with
  | true=>
   rw [if_pos rfl]
   refine lspec tab_ok mix Tryz.func197 (by kernel_rfl) (by rfl) (by rfl) (by rfl) (by rfl) ?_
   (refine go ?_; try exact True.intro)
   refine atB h (go ?_)
   refine getB hg (go ?_)
   refine .mk [] (go ?_)
   exact cb (by simp [holdI,intD,List.map_set]) (by (refine go ?_; try exact True.intro))
  | false=>
   rw [if_neg (by simp)]
   refine lspec tab_ok mix Tryz.func197 (by kernel_rfl) (by rfl) (by rfl) (by rfl) (by rfl) ?_
   (refine go ?_; try exact True.intro)
   refine atB h (go ?_)
   refine getB hg (go ?_)
   refine .mk [] (go ?_)
   exact cb (by simp [holdI,intD,List.map_set]) (by (refine go ?_; try exact True.intro))
def opMV (kind th idx a b : Int) : V:=.agg [V.int kind,V.int th,V.int idx,V.int a,V.int b]
theorem rTouchC (m : Mem) (th : Int) (i : Nat) (h : i < m.mtx.length) (ht : m.Thr) (h0 : 0 ≤ th) (hv : 0 ≤ m.viol ∧ m.viol < 2000000000) (a b : Int) : LSpec Tryz.prog 139 [.p 0 4 0 0,opMV 7 th i a b] (rmemB m 1) 4 (V.bool (decide (m.held i = (true,th)))) (rmemB (m.touch th i) 1) 4:=by
 have hg:=Mem.hold_get h
 have hl : (m.mtx.map holdI).length = m.mtx.length:=List.length_map ..
 unfold Mem.touch
 by_cases hh : m.held i = (true,th)
 · rw [if_pos hh,decide_eq_true hh]
   rw [hh] at hg
   have hd:=rHeldC m i h ht
   rw [hh] at hd
   refine lspec tab_ok mix Tryz.func139 (by kernel_rfl) (by rfl) (by rfl) (by rfl) (by rfl) ?_
   (refine go ?_; try exact True.intro)
   rw [show decide ((i : Int) < m.mtx.length) = true from decide_eq_true (by omega)]
   (refine go ?_; try exact True.intro)
   refine dcallR hd [some 0,some 1,some 2,some 3] rfl rfl (go ?_)
   refine atB h (go ?_)
   refine getB hg (go ?_)
   rw [show decide (holdI (true,th) = th) = true from decide_eq_true rfl]
   (refine go ?_; try exact True.intro)
   refine .mk [] (go ?_);try exact True.intro
 · rw [if_neg hh,decide_eq_false hh]
   refine lspec tab_ok mix Tryz.func139 (by kernel_rfl) (by rfl) (by rfl) (by rfl) (by rfl) ?_
   (refine go ?_; try exact True.intro)
   rw [show decide ((i : Int) < m.mtx.length) = true from decide_eq_true (by omega)]
   (refine go ?_; try exact True.intro)
   refine dcallR (rHeldC m i h ht) [some 0,some 1,some 2,some 3] rfl rfl (go ?_)
   cases hb : (m.held i).1 with
   | false=>
    (refine go ?_; try exact True.intro)
    refine .mk [] (go ?_);try exact True.intro
   | true=>
    have hne : holdI (m.held i) ≠ th:=fun e=>hh (Prod.ext hb (by rw [← e];unfold holdI;rw [if_pos hb]))
    (refine go ?_; try exact True.intro)
    refine atB h (go ?_)
    refine getB hg (go ?_)
    rw [decide_eq_false hne]
    (refine go ?_; try exact True.intro)
    refine .mk [] (go ?_);try exact True.intro
theorem lock_thr {m : Mem} (ht : m.Thr) {th : Int} (h0 : 0 ≤ th) (i : Nat) : (m.lock th i).1.Thr:=by
 intro j hj
 unfold Mem.lock at hj ⊢
 split at hj
 · rw [if_pos ‹_›] ;exact ht j hj
 · rw [if_neg ‹_›]
   unfold Mem.held at hj ⊢
   dsimp only at hj ⊢
   rw [List.getElem?_set] at hj ⊢
   split at hj
   · split at hj
     · rw [if_pos ‹_›,if_pos ‹_›];exact h0
     · cases hj
   · rw [if_neg ‹_›];exact ht j hj
theorem rLockC (m : Mem) (th : Int) (i : Nat) (h : i < m.mtx.length) (ht : m.Thr) (hf : m.Fits) (a b : Int) : LSpec Tryz.prog 139 [.p 0 4 0 0,opMV 5 th i a b] (rmemB m 1) 4 (V.bool (m.lock th i).2) (rmemB (m.lock th i).1 4) 5:=by
 have hg:=Mem.hold_get h
 have hl : (m.mtx.map holdI).length = m.mtx.length:=List.length_map ..
 have hll:=hf.log
 unfold Mem.lock
 cases hb : (m.held i).1 with
 | true=>
  rw [if_pos rfl]
  refine lspec tab_ok mix Tryz.func139 (by kernel_rfl) (by rfl) (by rfl) (by rfl) (by rfl) ?_
  (refine go ?_; try exact True.intro)
  rw [show decide ((i : Int) < m.mtx.length) = true from decide_eq_true (by omega)]
  (refine go ?_; try exact True.intro)
  refine callL (rHeldC m i h ht) [some 0,some 1,some 2,some 3] [] rfl ?_
  rw [hb]
  (refine go ?_; try exact True.intro)
  refine callL (rSetC m i h true false th) [some 0,some 1,some 2,some 3] [] rfl (go ?_)
  refine .mk [(4,3968)] (go ?_)
  refine cb (by simp [Acc.row]) (go ?_);try exact True.intro
 | false=>
  rw [if_neg (by simp)]
  refine lspec tab_ok mix Tryz.func139 (by kernel_rfl) (by rfl) (by rfl) (by rfl) (by rfl) ?_
  (refine go ?_; try exact True.intro)
  rw [show decide ((i : Int) < m.mtx.length) = true from decide_eq_true (by omega)]
  (refine go ?_; try exact True.intro)
  refine callL (rHeldC m i h ht) [some 0,some 1,some 2,some 3] [] rfl ?_
  rw [hb]
  (refine go ?_; try exact True.intro)
  refine callL (rSetC m i h true true th) [some 0,some 1,some 2,some 3] [] rfl (go ?_)
  refine .mk [(4,4096)] (go ?_)
  refine cb (by simp [Acc.row]) (go ?_);try exact True.intro
theorem rUnlockC (m : Mem) (th : Int) (i : Nat) (h : i < m.mtx.length) (ht : m.Thr) (h0 : 0 ≤ th) (hf : m.Fits) (a b : Int) : LSpec Tryz.prog 139 [.p 0 4 0 0,opMV 6 th i a b] (rmemB m 1) 4 (V.bool (m.unlock th i).2) (rmemB (m.unlock th i).1 4) 5:=by
 have hg:=Mem.hold_get h
 have hl : (m.mtx.map holdI).length = m.mtx.length:=List.length_map ..
 have hll:=hf.log
 have hv:=hf.viol
 have hd:=rHeldC m i h ht
 unfold Mem.unlock
 by_cases hh : m.held i = (true,th)
 · rw [if_pos hh]
   rw [hh] at hg hd
   refine lspec tab_ok mix Tryz.func139 (by kernel_rfl) (by rfl) (by rfl) (by rfl) (by rfl) ?_
   (refine go ?_; try exact True.intro)
   rw [show decide ((i : Int) < m.mtx.length) = true from decide_eq_true (by omega)]
   (refine go ?_; try exact True.intro)
   refine callL hd [some 0,some 1,some 2,some 3] [] rfl (go ?_)
   refine atB h (go ?_)
   refine getB hg (go ?_)
   rw [show decide (holdI (true,th) = th) = true from decide_eq_true rfl]
   (refine go ?_; try exact True.intro)
   refine callL (rSetC m i h false true th) [some 0,some 1,some 2,some 3] [] rfl (go ?_)
   refine .mk [(4,5312)] (go ?_)
   refine cb (by simp [Acc.row]) (go ?_);try exact True.intro
 · rw [if_neg hh]
   cases hb : (m.held i).1 with
   | false=>
    rw [hb] at hd
    refine lspec tab_ok mix Tryz.func139 (by kernel_rfl) (by rfl) (by rfl) (by rfl) (by rfl) ?_
    (refine go ?_; try exact True.intro)
    rw [show decide ((i : Int) < m.mtx.length) = true from decide_eq_true (by omega)]
    (refine go ?_; try exact True.intro)
    refine callL hd [some 0,some 1,some 2,some 3] [] rfl (go ?_)
    refine callL (rSetC { m with viol:=m.viol + 1 } i h false false th) [some 0,some 1,some 2,some 3] [] rfl (go ?_)
    refine .mk [(4,5632)] (go ?_)
    refine cb (by simp [Acc.row,bitI]) (go ?_);try exact True.intro
   | true=>
    rw [hb] at hd
    have hne : holdI (m.held i) ≠ th:=fun e=>hh (Prod.ext hb (by rw [← e];unfold holdI;rw [if_pos hb]))
    refine lspec tab_ok mix Tryz.func139 (by kernel_rfl) (by rfl) (by rfl) (by rfl) (by rfl) ?_
    (refine go ?_; try exact True.intro)
    rw [show decide ((i : Int) < m.mtx.length) = true from decide_eq_true (by omega)]
    (refine go ?_; try exact True.intro)
    refine callL hd [some 0,some 1,some 2,some 3] [] rfl (go ?_)
    refine atB h (go ?_)
    refine getB hg (go ?_)
    rw [decide_eq_false hne]
    (refine go ?_; try exact True.intro)
    refine callL (rSetC { m with viol:=m.viol + 1 } i h true false th) [some 0,some 1,some 2,some 3] [] rfl (go ?_)
    refine .mk [(4,5696)] (go ?_)
    refine cb (by simp [Acc.row,bitI]) (go ?_);try exact True.intro
theorem rDoLock (m : Mem) (th : Int) (i : Nat) (h : i < m.mtx.length) (ht : m.Thr) (hf : m.Fits) (a b : Int) : LSpec Tryz.prog 67 [.p 0 4 0 0,opMV 5 th i a b] (rmemB m 1) 4 (.tup [V.int 0,V.bool (m.lock th i).2]) (rmemB (m.lock th i).1 4) 5:=by
 have hc:=rLockC m th i h ht hf a b
 generalize m.lock th i = r at *
 refine lspec tab_ok mix Tryz.func67 (by kernel_rfl) (by rfl) (by rfl) (by rfl) (by rfl) ?_
 (refine go ?_; try exact True.intro)
 refine callL hc [some 0,some 1,some 2,some 3] [] rfl (go ?_)
 refine .mk [(4,576)] (go ?_);try exact True.intro
theorem rDoUnlock (m : Mem) (th : Int) (i : Nat) (h : i < m.mtx.length) (ht : m.Thr) (h0 : 0 ≤ th) (hf : m.Fits) (a b : Int) : LSpec Tryz.prog 67 [.p 0 4 0 0,opMV 6 th i a b] (rmemB m 1) 4 (.tup [V.int 0,V.bool (m.unlock th i).2]) (rmemB (m.unlock th i).1 4) 5:=by
 have hc:=rUnlockC m th i h ht h0 hf a b
 generalize m.unlock th i = r at *
 refine lspec tab_ok mix Tryz.func67 (by kernel_rfl) (by rfl) (by rfl) (by rfl) (by rfl) ?_
 (refine go ?_; try exact True.intro)
 refine callL hc [some 0,some 1,some 2,some 3] [] rfl (go ?_)
 refine .mk [(4,576)] (go ?_);try exact True.intro
theorem rDoTouch (m : Mem) (th : Int) (i : Nat) (h : i < m.mtx.length) (ht : m.Thr) (h0 : 0 ≤ th) (hv : 0 ≤ m.viol ∧ m.viol < 2000000000) (a b : Int) : LSpec Tryz.prog 67 [.p 0 4 0 0,opMV 7 th i a b] (rmemB m 1) 4 (.tup [V.int 0,V.bool (decide (m.held i = (true,th)))]) (rmemB (m.touch th i) 1) 4:=by
 have hc:=rTouchC m th i h ht h0 hv a b
 generalize m.touch th i = r at *
 refine lspec tab_ok mix Tryz.func67 (by kernel_rfl) (by rfl) (by rfl) (by rfl) (by rfl) ?_
 (refine go ?_; try exact True.intro)
 refine callL hc [some 0,some 1,some 2,some 3] [] rfl (go ?_)
 refine .mk [] (go ?_);try exact True.intro
theorem rDoStore (m : Mem) (th : Int) (i : Nat) (v : Int) (h : i < m.words.length) (hf : m.Fits) (b : Int) : LSpec Tryz.prog 67 [.p 0 4 0 0,opMV 4 th i v b] (rmemB m 1) 4 (.tup [V.int 0,V.bool false]) (rmemB (m.store th i v) 4) 5:=by
 have hg:=Mem.word_get h
 have hw:=hf.words
 have hll:=hf.log
 refine lspec tab_ok mix Tryz.func67 (by kernel_rfl) (by rfl) (by rfl) (by rfl) (by rfl) ?_
 (refine go ?_; try exact True.intro)
 rw [show decide ((i : Int) < 0) = false from decide_eq_false (by omega)]
 (refine go ?_; try exact True.intro)
 rw [show decide ((m.words.length : Int) ≤ i) = false from decide_eq_false (by omega)]
 (refine go ?_; try exact True.intro)
 refine atB h (go ?_)
 refine getB hg (go ?_)
 refine atB h (go ?_)
 refine getB hg (go ?_)
 refine .mk [(4,4544)] (go ?_);try exact True.intro
 repeat (refine cb (by simp [Mem.store,Mem.load,Mem.put,Acc.row,intD,List.map_set]) ?_;(refine go ?_; try exact True.intro))
theorem rDoCas (m : Mem) (th : Int) (i : Nat) (o v : Int) (h : i < m.words.length) (hf : m.Fits) : LSpec Tryz.prog 67 [.p 0 4 0 0,opMV 3 th i o v] (rmemB m 1) 4 (.tup [V.int 0,V.bool (m.cas th i o v).2]) (rmemB (m.cas th i o v).1 4) 5:=by
 have hg:=Mem.word_get h
 have hw:=hf.words
 have hll:=hf.log
 unfold Mem.cas
 by_cases e : m.word i = o
 · rw [if_pos e]
   refine lspec tab_ok mix Tryz.func67 (by kernel_rfl) (by rfl) (by rfl) (by rfl) (by rfl) ?_
   (refine go ?_; try exact True.intro)
   rw [show decide ((i : Int) < 0) = false from decide_eq_false (by omega)]
   (refine go ?_; try exact True.intro)
   rw [show decide ((m.words.length : Int) ≤ i) = false from decide_eq_false (by omega)]
   (refine go ?_; try exact True.intro)
   refine atB h (go ?_)
   refine getB hg (go ?_)
   rw [decide_eq_true e]
   (refine go ?_; try exact True.intro)
   refine atB h (go ?_)
   refine getB hg (go ?_)
   refine .mk [(4,5056)] (go ?_);try exact True.intro
   repeat (refine cb (by simp [Mem.store,Mem.load,Mem.put,Acc.row,intD,List.map_set]) ?_;(refine go ?_; try exact True.intro))
 · rw [if_neg e]
   refine lspec tab_ok mix Tryz.func67 (by kernel_rfl) (by rfl) (by rfl) (by rfl) (by rfl) ?_
   (refine go ?_; try exact True.intro)
   rw [show decide ((i : Int) < 0) = false from decide_eq_false (by omega)]
   (refine go ?_; try exact True.intro)
   rw [show decide ((m.words.length : Int) ≤ i) = false from decide_eq_false (by omega)]
   (refine go ?_; try exact True.intro)
   refine atB h (go ?_)
   refine getB hg (go ?_)
   rw [decide_eq_false e]
   (refine go ?_; try exact True.intro)
   refine atB h (go ?_)
   refine getB hg (go ?_)
   refine .mk [(4,4864)] (go ?_);try exact True.intro
   repeat (refine cb (by simp [Mem.store,Mem.load,Mem.put,Acc.row,intD,List.map_set]) ?_;(refine go ?_; try exact True.intro))
def rstoB (s : Sto) (l : Nat) : List (Nat × B):=[(0,.rows 10 [stoC s 1]),(1,rmemR s.m l 3 4),(l,logD s.m),(3,wordsD s.m),(4,rmtxD s.m)]
theorem rsTouchC (s : Sto) (th : Int) (i : Nat) (h : i < s.m.mtx.length) (ht : s.m.Thr) (h0 : 0 ≤ th) (hv : 0 ≤ s.m.viol ∧ s.m.viol < 2000000000) : LSpec Tryz.prog 177 [.p 0 10 0 0,V.int th,V.int i] (rstoB s 2) 5 (.tup []) (rstoB (s.touch th [i]) 2) 5:=by
 have hc:=rDoTouch s.m th i h ht h0 hv 0 0
 show LSpec _ _ _ _ _ _ (rstoB { s with m:=s.m.touch th i } 2) 5
 generalize s.m.touch th i = m' at *
 refine lspec tab_ok mix Tryz.func177 (by kernel_rfl) (by rfl) (by rfl) (by rfl) (by rfl) ?_
 (refine go ?_; try exact True.intro)
 refine callL hc [some 1,some 2,some 3,some 4] [] rfl (go ?_)
 refine .mk [] (go ?_);try exact True.intro
theorem rsSetC (s : Sto) (th : Int) (i : Nat) (v : Int) (h : i < s.m.words.length) (hf : s.m.Fits) : LSpec Tryz.prog 178 [.p 0 10 0 0,V.int th,V.int i,V.int v] (rstoB s 2) 5 (.tup []) (rstoB { s with m:=s.m.store th i v } 5) 6:=by
 have hc:=rDoStore s.m th i v h hf 0
 generalize s.m.store th i v = m' at *
 refine lspec tab_ok mix Tryz.func178 (by kernel_rfl) (by rfl) (by rfl) (by rfl) (by rfl) ?_
 (refine go ?_; try exact True.intro)
 refine callL hc [some 1,some 2,some 3,some 4] [] rfl (go ?_)
 refine .mk [(5,576)] (go ?_);try exact True.intro
theorem rsSlotC (s : Sto) (i : Nat) (t q : Int) (h : i < s.slots.length) (hl : s.slots.length < 1000000) : LSpec Tryz.prog 179 [.p 0 10 0 0,V.int i,V.int t,V.int q] (rstoB s 2) 5 (.tup []) (rstoB { s with slots:=s.slots.set i ⟨0,0,t,q⟩ } 2) 5:=by
 refine lspec tab_ok mix Tryz.func179 (by kernel_rfl) (by rfl) (by rfl) (by rfl) (by rfl) ?_
 (refine go ?_; try exact True.intro)
 refine atB (by simpa using h) (go ?_)
 refine getB_lit (s.slot i).row (by rw [List.nil_append,List.getElem?_map,Sto.slot_get h];rfl) (go ?_)
 refine .mk [] (go ?_)
 exact cb ⟨by simp,by rw [List.nil_append,List.map_set];rfl⟩ (by (refine go ?_; try exact True.intro))
theorem touches_thr {th : Int} : ∀ (l : List Nat) {m : Mem},m.Thr → (m.touches th l).Thr:=fun l m h i=>by
 have:=touches_same th l m
 unfold Mem.held
 rw [this.2.1];exact h i
theorem rsAllocC (s : Sto) (th t : Int) (l : List Int) (i : Nat) (h : s.idle = l ++ [(i : Int)]) (hf : s.Fits) (hv : s.m.viol < 100000000) (hm : 4 ≤ s.m.mtx.length) (ht : s.m.Thr) (h0 : 0 ≤ th) (hi : i < s.slots.length) (hw : i + 1 < s.m.words.length) (h64 : i < 64)
 (hg : (0 ≤ s.m.word (i + 1) ∧ s.m.word (i + 1) ≤ 9223372036854775807) ∧ 0 ≤ s.m.word (i + 1) / 4 ∧ s.m.word (i + 1) / 4 ≤ 1099511627776) :
 LSpec Tryz.prog 107 [.p 0 10 0 0,V.int th,V.int t] (rstoB s 2) 5 (.tup [V.int (64 * (s.m.word (i + 1) / 4) + i),V.bool true]) (rstoB ((s.touch th [3]).alloc1 th t l i) 5) 6:=by
 have hf1:=Sto.touch_fits hf th [3] (by simp;omega)
 obtain ⟨t1,t2,t3,t4,t5⟩:=touches_same th [3] s.m
 have h1 : (s.touch th [3]).idle = l ++ [(i : Int)]:=h
 have hi1 : i < (s.touch th [3]).slots.length:=hi
 have hw1 : i + 1 < (s.touch th [3]).m.words.length:=by show i + 1 < (s.m.touches th [3]).words.length;rw [t1];exact hw
 have hwd : s.m.word (i + 1) = (s.touch th [3]).m.word (i + 1):=by
  show (s.m.words[i + 1]?).getD 0 = ((s.m.touches th [3]).words[i + 1]?).getD 0
  rw [t1]
 have hvv:=hf.mem.viol
 have hg1:=rsTouchC s th 3 (by omega) ht h0 ⟨hvv.1,by omega⟩
 rw [hwd] at hg ⊢
 clear t1 t2 t3 t4 t5 hwd hi hw h
 generalize s.touch th [3] = s1 at *
 have hid:=hf1.idle
 have hnx:=hf1.next
 have hget : s1.idle[l.length]? = some (i : Int):=by rw [h1];simp
 have hlen : s1.idle.length = l.length + 1:=by rw [h1];simp
 have hml : (s1.idle.map intD).length = s1.idle.length:=List.length_map ..
 refine lspec tab_ok mix Tryz.func107 (by kernel_rfl) (by rfl) (by rfl) (by rfl) (by rfl) ?_
 (refine go ?_; try exact True.intro)
 refine callL hg1 [some 0,some 1,some 2,some 3,some 4] [] rfl (go ?_)
 rw [show decide (((s1.idle.map intD).length : Int) = 0) = false from decide_eq_false (by omega)]
 (refine go ?_; try exact True.intro)
 refine idxB_eq l.length i (by omega) hget (go ?_)
 refine slB 0 l.length rfl (by show _ = _;omega) (by omega) ?_
 rw [show ((s1.idle.map intD).drop 0).take (l.length - 0) = l.map intD by rw [h1];simp]
 (refine go ?_; try exact True.intro)
 refine callL (rsSlotC { s1 with idle:=l } i t s1.next hi1 hf1.slots) [some 0,some 1,some 2,some 3,some 4] [2240] rfl (go ?_)
 refine wrB (by show -9223372036854775808 ≤ s1.next + 1 ∧ s1.next + 1 ≤ 9223372036854775807;omega) (go ?_)
 rw [show (1 + (i : Int)) = ((i + 1 : Nat) : Int) by omega]
 refine atB hw1 (go ?_)
 refine getB (Mem.word_get hw1) (go ?_)
 refine callB (rGenC (s1.m.word (i + 1)) hg.1) (go ?_)
 refine callB (rWordC (s1.m.word (i + 1) / 4) 1 ⟨⟨hg.2.1,by have:=hg.2.2;omega⟩,by omega⟩) (go ?_)
 rw [show (1 + (i : Int)) = ((i + 1 : Nat) : Int) by omega]
 refine callL (rsSetC { s1 with idle:=l,slots:=s1.slots.set i ⟨0,0,t,s1.next⟩,next:=s1.next + 1 } th (i + 1) (4 * (s1.m.word (i + 1) / 4) + 1) hw1 hf1.mem) [some 0,some 1,some 2,some 3,some 4] [] rfl (go ?_)
 refine callB (rMakeC i (s1.m.word (i + 1) / 4) ⟨⟨hg.2.1,by have:=hg.2.2;omega⟩,by omega⟩) (go ?_)
 refine .mk [(5,5056)] (go ?_);try exact True.intro
theorem rsFreeC (s : Sto) (th : Int) (i : Nat) (hf : s.Fits) (hv : s.m.viol < 100000000) (hm : 4 ≤ s.m.mtx.length) (ht : s.m.Thr) (h0 : 0 ≤ th) (hi : i < s.slots.length) (hw : i + 1 < s.m.words.length)
 (hg : (0 ≤ s.m.word (i + 1) ∧ s.m.word (i + 1) ≤ 9223372036854775807) ∧ 0 ≤ s.m.word (i + 1) / 4 ∧ s.m.word (i + 1) / 4 ≤ 1099511627776) :
 LSpec Tryz.prog 99 [.p 0 10 0 0,V.int th,V.int i] (rstoB s 2) 5 (.tup []) (rstoB ((s.touch th [3]).free1 th i) 5) 6:=by
 have hf1:=Sto.touch_fits hf th [3] (by simp;omega)
 obtain ⟨t1,t2,t3,t4,t5⟩:=touches_same th [3] s.m
 have hi1 : i < (s.touch th [3]).slots.length:=hi
 have hw1 : i + 1 < (s.touch th [3]).m.words.length:=by show i + 1 < (s.m.touches th [3]).words.length;rw [t1];exact hw
 have hwd : s.m.word (i + 1) = (s.touch th [3]).m.word (i + 1):=by
  show (s.m.words[i + 1]?).getD 0 = ((s.m.touches th [3]).words[i + 1]?).getD 0
  rw [t1]
 have hvv:=hf.mem.viol
 have hg1:=rsTouchC s th 3 (by omega) ht h0 ⟨hvv.1,by omega⟩
 rw [hwd] at hg
 clear t1 t2 t3 t4 t5 hwd hi hw
 generalize s.touch th [3] = s1 at *
 have hid:=hf1.idle
 have hsl:=hf1.slots
 have hww:=hf1.mem.words
 refine lspec tab_ok mix Tryz.func99 (by kernel_rfl) (by rfl) (by rfl) (by rfl) (by rfl) ?_
 (refine go ?_; try exact True.intro)
 refine callL hg1 [some 0,some 1,some 2,some 3,some 4] [] rfl (go ?_)
 rw [show (1 + (i : Int)) = ((i + 1 : Nat) : Int) by omega]
 refine atB hw1 (go ?_)
 refine getB (Mem.word_get hw1) (go ?_)
 refine callB (rGenC (s1.m.word (i + 1)) hg.1) (go ?_)
 refine callB (rWordC (s1.m.word (i + 1) / 4 + 1) 0 ⟨⟨by omega,by have:=hg.2.2;omega⟩,by omega⟩) (go ?_)
 rw [show (1 + (i : Int)) = ((i + 1 : Nat) : Int) by omega]
 refine callL (rsSetC s1 th (i + 1) (4 * (s1.m.word (i + 1) / 4 + 1) + 0) hw1 hf1.mem) [some 0,some 1,some 2,some 3,some 4] [] rfl (go ?_)
 refine callL (rsSlotC { s1 with m:=s1.m.store th (i + 1) (4 * (s1.m.word (i + 1) / 4 + 1) + 0) } i 0 0 hi1 hsl) [some 0,some 1,some 1536,some 3,some 4] [] rfl (go ?_)
 refine .mk [(5,1536)] (go ?_)
 exact cb ⟨by simp [Sto.free1],by simp [Sto.free1,intD]⟩ (by (refine go ?_; try exact True.intro))
theorem rsReplaceC (s : Sto) (th : Int) (q : Lad) (hf : s.Fits) (hw : 0 < s.m.words.length) : LSpec Tryz.prog 209 [.p 0 10 0 0,V.int th,q.v] (rstoB s 2) 5 (.tup []) (rstoB (s.replace th q) 5) 6:=by
 unfold Sto.replace
 by_cases h : q.topStart = s.q.topStart
 · rw [if_pos h]
   refine lspec tab_ok mix Tryz.func209 (by kernel_rfl) (by rfl) (by rfl) (by rfl) (by rfl) ?_
   (refine go ?_; try exact True.intro)
   rw [show (!decide (q.topStart = s.q.topStart)) = false by rw [decide_eq_true h];rfl]
   (refine go ?_; try exact True.intro)
   refine .mk [(5,2)] (go ?_);try exact True.intro
 · rw [if_neg h]
   refine lspec tab_ok mix Tryz.func209 (by kernel_rfl) (by rfl) (by rfl) (by rfl) (by rfl) ?_
   (refine go ?_; try exact True.intro)
   rw [show (!decide (q.topStart = s.q.topStart)) = true by rw [decide_eq_false h];rfl]
   (refine go ?_; try exact True.intro)
   refine callL (rsSetC s th 0 q.topStart hw hf.mem) [some 0,some 1,some 2,some 3,some 4] [] rfl (go ?_)
   refine .mk [(5,896)] (go ?_);try exact True.intro
theorem touch_touch (s : Sto) (th : Int) (i : Nat) (l : List Nat) : (s.touch th [i]).touch th l = s.touch th (i :: l):=rfl
theorem rsQueueC (s : Sto) (th : Int) (hm : 4 ≤ s.m.mtx.length) (ht : s.m.Thr) (h0 : 0 ≤ th) (hv : 0 ≤ s.m.viol ∧ s.m.viol < 1000000000) : LSpec Tryz.prog 207 [.p 0 10 0 0,V.int th] (rstoB s 2) 5 (.tup []) (rstoB (s.touch th [0,1,2]) 2) 5:=by
 have h1:=rsTouchC s th 0 (by omega) ht h0 ⟨hv.1,by omega⟩
 obtain ⟨a1,a2,a3,a4,a5⟩:=touches_same th [0] s.m
 have h2:=rsTouchC (s.touch th [0]) th 1 (by show 1 < (s.m.touches th [0]).mtx.length;rw [a2];omega) (touches_thr [0] ht) h0 (by show 0 ≤ (s.m.touches th [0]).viol ∧ (s.m.touches th [0]).viol < 2000000000;simp only [List.length_cons,List.length_nil] at a5;omega)
 obtain ⟨b1,b2,b3,b4,b5⟩:=touches_same th [0,1] s.m
 have h3:=rsTouchC (s.touch th [0,1]) th 2 (by show 2 < (s.m.touches th [0,1]).mtx.length;rw [b2];omega) (touches_thr [0,1] ht) h0 (by show 0 ≤ (s.m.touches th [0,1]).viol ∧ (s.m.touches th [0,1]).viol < 2000000000;simp only [List.length_cons,List.length_nil] at b5;omega)
 rw [touch_touch] at h2
 rw [show (s.touch th [0,1]).touch th [2] = s.touch th [0,1,2] from rfl] at h3
 clear a1 a2 a3 a4 a5 b1 b2 b3 b4 b5
 generalize s.touch th [0,1,2] = s3 at *
 generalize s.touch th [0,1] = s2 at *
 generalize s.touch th [0] = s1 at *
 refine lspec tab_ok mix Tryz.func207 (by kernel_rfl) (by rfl) (by rfl) (by rfl) (by rfl) ?_
 (refine go ?_; try exact True.intro)
 refine callL h1 [some 0,some 1,some 2,some 3,some 4] [] rfl (go ?_)
 refine callL h2 [some 0,some 1,some 2,some 3,some 4] [] rfl (go ?_)
 refine callL h3 [some 0,some 1,some 2,some 3,some 4] [] rfl (go ?_)
 refine .mk [] (go ?_);try exact True.intro
theorem rsPeekC (s : Sto) (th : Int) {q : Lad} {it : Item} {ok : Bool} (hq : PSpec Tryz.prog 208 [s.q.v] (.tup [q.v,it.v,V.bool ok])) (hf : s.Fits) (hv : s.m.viol < 100000000) (hm : 4 ≤ s.m.mtx.length) (ht : s.m.Thr) (h0 : 0 ≤ th) (hw : 0 < s.m.words.length) :
 LSpec Tryz.prog 147 [.p 0 10 0 0,V.int th] (rstoB s 2) 5 (.tup [it.v,V.bool ok]) (rstoB (s.take th q) 5) 6:=by
 have hf1:=Sto.touch_fits hf th [0,1,2] (by simp;omega)
 obtain ⟨t1,_⟩:=touches_same th [0,1,2] s.m
 have hvv:=hf.mem.viol
 have h1:=rsQueueC s th hm ht h0 ⟨hvv.1,by omega⟩
 have hq1 : (s.touch th [0,1,2]).q = s.q:=rfl
 have hw1 : 0 < (s.touch th [0,1,2]).m.words.length:=by show 0 < (s.m.touches th [0,1,2]).words.length;rw [t1];exact hw
 have h2:=rsReplaceC (s.touch th [0,1,2]) th q hf1 hw1
 unfold Sto.take
 rw [← hq1] at hq
 clear hq1 t1 hw1
 generalize (s.touch th [0,1,2]).replace th q = s2 at *
 generalize s.touch th [0,1,2] = s1 at *
 refine lspec tab_ok mix Tryz.func147 (by kernel_rfl) (by rfl) (by rfl) (by rfl) (by rfl) ?_
 (refine go ?_; try exact True.intro)
 refine callL h1 [some 0,some 1,some 2,some 3,some 4] [] rfl (go ?_)
 refine callB hq (go ?_)
 refine callL h2 [some 0,some 1,some 2,some 3,some 4] [] rfl (go ?_)
 refine .mk [(5,1472)] (go ?_);try exact True.intro
theorem rsDropC (s : Sto) (th : Int) {q : Lad} {it : Item} {ok : Bool} (hq : PSpec Tryz.prog 210 [s.q.v] (.tup [q.v,it.v,V.bool ok])) (hf : s.Fits) (hv : s.m.viol < 100000000) (hm : 4 ≤ s.m.mtx.length) (ht : s.m.Thr) (h0 : 0 ≤ th) (hw : 0 < s.m.words.length) :
 LSpec Tryz.prog 148 [.p 0 10 0 0,V.int th] (rstoB s 2) 5 (.tup []) (rstoB (s.take th q) 5) 6:=by
 have hf1:=Sto.touch_fits hf th [0,1,2] (by simp;omega)
 obtain ⟨t1,_⟩:=touches_same th [0,1,2] s.m
 have hvv:=hf.mem.viol
 have h1:=rsQueueC s th hm ht h0 ⟨hvv.1,by omega⟩
 have hq1 : (s.touch th [0,1,2]).q = s.q:=rfl
 have hw1 : 0 < (s.touch th [0,1,2]).m.words.length:=by show 0 < (s.m.touches th [0,1,2]).words.length;rw [t1];exact hw
 have h2:=rsReplaceC (s.touch th [0,1,2]) th q hf1 hw1
 unfold Sto.take
 rw [← hq1] at hq
 clear hq1 t1 hw1
 generalize (s.touch th [0,1,2]).replace th q = s2 at *
 generalize s.touch th [0,1,2] = s1 at *
 refine lspec tab_ok mix Tryz.func148 (by kernel_rfl) (by rfl) (by rfl) (by rfl) (by rfl) ?_
 (refine go ?_; try exact True.intro)
 refine callL h1 [some 0,some 1,some 2,some 3,some 4] [] rfl (go ?_)
 refine callB hq (go ?_)
 refine callL h2 [some 0,some 1,some 2,some 3,some 4] [] rfl (go ?_)
 refine .mk [(5,1344)] (go ?_);try exact True.intro
def CurOk (q : Lad) : Prop:=∀ r ∈ q.rungs,PSpec Tryz.prog 232 [r.v] (V.int (r.at r.cur))
theorem rsAccepts (s : Sto) (t : Int) (hc : CurOk s.q) (hl : s.q.rungs.length < 1000000) :
 LSpec Tryz.prog 184 [.p 0 10 0 0,V.int t] (rstoB s 2) 5 (V.bool (accQ s.q t)) (rstoB s 2) 5:=by
 refine lspec tab_ok mix Tryz.func184 (by kernel_rfl) (by rfl) (by rfl) (by rfl) (by rfl) ?_
 (refine go ?_; try exact True.intro)
 refine loopB tab_ok mix [0,1] [0,1,2,3,4] (fun i : Nat=>[(5,V.int i)]) (fun i=>[]) (fun i=>i ≤ s.q.rungs.length ∧ ∀ r ∈ s.q.rungs.take i,accB r t = false) (fun i=>s.q.rungs.length - i) [] 0 rfl ⟨by omega,by simp⟩ (by (refine go ?_; try exact True.intro)) ?_
 rintro i ⟨h1,h2⟩
 (refine go ?_; try exact True.intro)
 refine br_dec (fun u=>?_) (fun u=>?_) <;> (refine go ?_; try exact True.intro)
 · have u' : i < s.q.rungs.length:=by simpa using u
   obtain ⟨r,hri⟩:=get_lt u'
   refine idxB hri (go ?_)
   refine callB (hc r (List.mem_of_getElem? hri)) (go ?_)
   refine br_dec (fun e=>?_) (fun e=>?_) <;> (refine go ?_; try exact True.intro)
   · have ha : accQ s.q t = true:=by
      unfold accQ
      rw [List.any_eq_true]
      exact ⟨r,List.mem_of_getElem? hri,by unfold accB;simpa using e⟩
     rw [ha]
     refine .mk [] (go ?_);try exact True.intro
   · refine .mk [] (i + 1) ⟨by omega,fun x hx=>?_⟩ (by omega) ?_
     · rw [List.take_add_one,hri,Option.toList_some] at hx
       rcases List.mem_append.1 hx with hx | hx
       · exact h2 x hx
       · rw [List.mem_singleton] at hx;subst hx
         unfold accB;simpa using e
     (refine go ?_; try exact True.intro)
 · have e : i = s.q.rungs.length:=by simp at u;omega
   have ha : accQ s.q t = false:=by
    unfold accQ
    rw [List.any_eq_false]
    intro x hx
    have:=h2 x (by rw [e,List.take_length];exact hx)
    rw [this];simp
   rw [ha]
   refine .mk [] (go ?_);try exact True.intro
theorem rsPutC (s : Sto) (th : Int) (i : Nat) (h : i < s.slots.length) (hf : s.Fits) (hv : s.m.viol < 100000000) (hm : 4 ≤ s.m.mtx.length) (ht : s.m.Thr) (h0 : 0 ≤ th) (hc : CurOk s.q) (hl : s.q.rungs.length < 1000000)
 (hq : PSpec Tryz.prog 206 [s.q.v,(s.item i).v] ((insLad s.q (s.item i)).v)) :
 LSpec Tryz.prog 146 [.p 0 10 0 0,V.int th,V.int i] (rstoB s 2) 5 (.tup []) (rstoB (s.put th i) 2) 5:=by
 have hg:=Sto.slot_get h
 have hvv:=hf.mem.viol
 unfold Sto.put Sto.putL
 by_cases g : s.q.topStart ≤ (s.slot i).time
 · rw [if_pos g]
   have h1:=rsTouchC s th 0 (by omega) ht h0 ⟨hvv.1,by omega⟩
   have e1 : (s.touch th [0]).q = s.q:=rfl
   refine lspec tab_ok mix Tryz.func146 (by kernel_rfl) (by rfl) (by rfl) (by rfl) (by rfl) ?_
   (refine go ?_; try exact True.intro)
   refine idxB hg (go ?_)
   rw [decide_eq_true g]
   (refine go ?_; try exact True.intro)
   refine callL h1 [some 0,some 1,some 2,some 3,some 4] [] rfl (go ?_)
   refine dcallB hq (go ?_)
   refine .mk [] (go ?_);try exact True.intro
 · rw [if_neg g]
   cases hx : accQ s.q (s.slot i).time with
   | true=>
    rw [if_pos rfl]
    have h1:=rsTouchC s th 1 (by omega) ht h0 ⟨hvv.1,by omega⟩
    refine lspec tab_ok mix Tryz.func146 (by kernel_rfl) (by rfl) (by rfl) (by rfl) (by rfl) ?_
    (refine go ?_; try exact True.intro)
    refine idxB hg (go ?_)
    rw [decide_eq_false g]
    (refine go ?_; try exact True.intro)
    refine callL h1 [some 0,some 1,some 2,some 3,some 4] [] rfl (go ?_)
    refine callL (rsAccepts (s.touch th [1]) (s.slot i).time hc hl) [some 0,some 1,some 2,some 3,some 4] [] rfl ?_
    rw [show accQ (s.touch th [1]).q (s.slot i).time = true from hx]
    (refine go ?_; try exact True.intro)
    refine dcallB hq (go ?_)
    refine .mk [] (go ?_);try exact True.intro
   | false=>
    rw [if_neg (by simp)]
    have h1:=rsTouchC s th 1 (by omega) ht h0 ⟨hvv.1,by omega⟩
    obtain ⟨a1,a2,a3,a4,a5⟩:=touches_same th [1] s.m
    have h2:=rsTouchC (s.touch th [1]) th 2 (by show 2 < (s.m.touches th [1]).mtx.length;rw [a2];omega) (touches_thr [1] ht) h0 (by show 0 ≤ (s.m.touches th [1]).viol ∧ (s.m.touches th [1]).viol < 2000000000;simp only [List.length_cons,List.length_nil] at a5;omega)
    rw [touch_touch] at h2
    refine lspec tab_ok mix Tryz.func146 (by kernel_rfl) (by rfl) (by rfl) (by rfl) (by rfl) ?_
    (refine go ?_; try exact True.intro)
    refine idxB hg (go ?_)
    rw [decide_eq_false g]
    (refine go ?_; try exact True.intro)
    refine callL h1 [some 0,some 1,some 2,some 3,some 4] [] rfl (go ?_)
    refine callL (rsAccepts (s.touch th [1]) (s.slot i).time hc hl) [some 0,some 1,some 2,some 3,some 4] [] rfl ?_
    rw [show accQ (s.touch th [1]).q (s.slot i).time = false from hx]
    (refine go ?_; try exact True.intro)
    refine callL h2 [some 0,some 1,some 2,some 3,some 4] [] rfl (go ?_)
    refine dcallB hq (go ?_)
    refine .mk [] (go ?_);try exact True.intro
theorem rNewMemC (w x : Nat) (hw : w ≤ 256) (hx : x ≤ 256) : LSpec Tryz.prog 138 [V.int w,V.int x] [] 0 (.p 0 4 0 0) (rmemB (mem0 w x) 1) 4:=by
 refine lspec tab_ok mix Tryz.func138 (by kernel_rfl) (by rfl) (by rfl) (by rfl) (by rfl) ?_
 (refine go ?_; try exact True.intro)
 rw [decide_eq_false (show ¬ (w : Int) < 0 by omega)]
 (refine go ?_; try exact True.intro)
 rw [decide_eq_false (show ¬ (256 : Int) < w by omega)]
 (refine go ?_; try exact True.intro)
 rw [decide_eq_false (show ¬ (x : Int) < 0 by omega)]
 (refine go ?_; try exact True.intro)
 rw [decide_eq_false (show ¬ (256 : Int) < x by omega)]
 (refine go ?_; try exact True.intro)
 rw [show (if (256 : Int) < (if (w : Int) < 0 then (0 : Int) else (w : Int)) then (256 : Int) else (if (w : Int) < 0 then (0 : Int) else (w : Int))) = (w : Int) by rw [if_neg (show ¬ (w : Int) < 0 by omega),if_neg (by omega)]]
 refine makeB tab_ok w [.c (.int .i64 0)] _ rfl (.c _ rfl .nil) rfl rfl (by omega) rfl (go ?_)
 refine loopB tab_ok mix [1,5] [1216] (fun i : Nat=>[(6,V.int i)]) (fun i=>[(1344,.rows 4 [[.ac 1216 1 w,.ac 5 1 (List.replicate i (-1 : Int)).length,.c (.slice none 0 0),V.int 0]]),(5,.dat 1 ((List.replicate i (-1 : Int)).map intD))]) (fun i=>i ≤ x) (fun i=>x - i) [(5,1537)] 0 rfl (by omega) (by (refine go ?_; try exact True.intro)) ?_
 rintro i hi
 (refine go ?_; try exact True.intro)
 refine br_dec (fun u=>?_) (fun u=>?_) <;> (refine go ?_; try exact True.intro)
 · refine .mk [(5,2112)] (i + 1) (by omega) (by omega) (go ?_);try exact True.intro
   repeat (refine cb (by simp [List.replicate_succ',intD]) ?_;(refine go ?_; try exact True.intro))
 · have e : i = x:=by omega
   subst e
   refine .mk [(0,1344),(1,5377),(2,1216),(3,5)] (go ?_);try exact True.intro
   repeat (refine cb (by simp [mem0,holdI,intD]) ?_;(refine go ?_; try exact True.intro))
def downTo (n i : Nat) : List Int:=(List.range i).map fun k : Nat=>(n : Int) - 1 - k
theorem downTo_idle (n : Nat) : downTo n n = idle0 n:=by
 unfold downTo idle0
 apply List.ext_getElem
 · simp
 · intro k h1 h2
   simp at h1
   simp
   omega
theorem rNewArC (n : Nat) (h : 1 ≤ n ∧ n ≤ 64) : PSpec Tryz.prog 137 [V.int n] (.tup [.agg [sltsV (List.replicate n slt0),intsV (idle0 n),V.int 0],V.int 0]):=by
 have hdl : ∀ i,(downTo n i).length = i:=fun i=>by simp [downTo]
 rw [← downTo_idle]
 refine pspec tab_ok mix Tryz.func137 (by kernel_rfl) rfl rfl ?_
 (refine go ?_; try exact True.intro)
 rw [show decide ((n : Int) < 1) = false from decide_eq_false (by omega)]
 (refine go ?_; try exact True.intro)
 rw [show decide ((64 : Int) < n) = false from decide_eq_false (by omega)]
 (refine go ?_; try exact True.intro)
 refine loopB tab_ok mix [0,2,4] [0] (fun i : Nat=>[(5,V.int i)]) (fun i=>[(576,.rows 3 [[.ac 1 4 (List.replicate i slt0).length,.ac 2 1 (downTo n i).length,V.int 0]]),(1,.dat 4 ((List.replicate i slt0).map Slt.row)),(2,.dat 1 ((downTo n i).map intD))]) (fun i=>i ≤ n) (fun i=>n - i) [(1,769),(2,770)] 0 rfl (by omega) (by (refine go ?_; try exact True.intro)) ?_
 rintro i hi
 (refine go ?_; try exact True.intro)
 by_cases c : (i : Int) < 64
 · rw [decide_eq_true c]
   (refine go ?_; try exact True.intro)
   refine br_dec (fun u=>?_) (fun u=>?_) <;> (refine go ?_; try exact True.intro)
   · have u' : i < n:=by omega
     refine cb ⟨(List.length_map ..).symm,by rw [hdl];simp;omega⟩ (go ?_)
     refine .mk [(1,1472),(2,2112)] (i + 1) (by omega) (by omega) (go ?_);try exact True.intro
     repeat (refine cb (by simp [downTo,List.range_succ,List.replicate_succ',intD,Slt.row,slt0]) ?_;(refine go ?_; try exact True.intro))
   · obtain rfl : i = n:=by omega
     refine frzK (go ?_);try exact True.intro
     repeat (refine cb ⟨by simp [hdl],by rfl⟩ ?_;(refine go ?_; try exact True.intro))
 · rw [decide_eq_false c]
   (refine go ?_; try exact True.intro)
   obtain rfl : i = n:=by omega
   refine frzK (go ?_);try exact True.intro
   repeat (refine cb ⟨by simp [hdl],by rfl⟩ ?_;(refine go ?_; try exact True.intro))
theorem rsNewC (n : Nat) (h : 1 ≤ n ∧ n ≤ 64) : LSpec Tryz.prog 66 [V.int n] [] 0 (.p 0 10 0 0) (rstoB (sto0 n) 2) 5:=by
 unfold sto0
 refine lspec tab_ok mix Tryz.func66 (by kernel_rfl) (by rfl) (by rfl) (by rfl) (by rfl) ?_
 (refine go ?_; try exact True.intro)
 refine callB (rNewArC n h) (go ?_)
 rw [show ((n : Int) + 1) = ((n + 1 : Nat) : Int) by omega,show V.c (Value.int IntKind.i64 4) = V.int ((4 : Nat) : Int) from rfl]
 refine dcallL (rNewMemC (n + 1) 4 (by omega) (by omega)) [] [] (go ?_)
 refine .mk [(0,1088),(1,896),(2,897),(3,898),(4,899)] (go ?_);try exact True.intro
def staleW (w g : Int) : Bool:=(!decide (w / 4 = g)) || (decide (w % 4 = 0) || decide (w % 4 = 3))
structure COp where
 th : Int
 h : Int
 ph : Int
 seen : Int
 done : Bool
 blk : Bool
def COp.load (c : COp) (w : Int) : COp:=
 if staleW w (genH c.h) = true then { c with seen:=w,ph:=2 }
 else if w % 4 = 2 then { c with seen:=w,blk:=true }
 else { c with seen:=w,ph:=1 }
def COp.swap (c : COp) (ok : Bool) : COp:=if ok = true then { c with ph:=2,done:=true } else { c with ph:=0 }
def COp.new (c : COp) : Int:=4 * (c.seen / 4) + 3
def COp.cl (c : COp) : COp:={ c with blk:=false }
end Go.Proofs.YtdjnjchpgccbiaaGreat.Abs
