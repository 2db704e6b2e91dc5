/- The reference's shared memory: the same data, other blocks. -/
import Derived.Test.YtdjnjchpgccbiaaGreatHA
import Derived.Test.YtdjnjchpgccbiaaGreatHB
namespace Go.Proofs.YtdjnjchpgccbiaaGreat.Abs
open Go.Proofs
set_option maxRecDepth 10000
set_option linter.unusedSimpArgs false
set_option linter.unusedVariables false
def ZaM (p : Bool × Int) : Int:=if p.1 = true then p.2 else -1
def Zrx (m : Mem) (l w x : Nat) : B:=.rows 4 [[.ac w 1 m.words.length,.ac x 1 m.mtx.length,.ac l 6 m.log.length,V.int m.viol]]
def Zqj (m : Mem) : B:=.dat 1 ((m.mtx.map ZaM).map QF)
def Q2 (m : Mem) (l : Nat) : List (Nat × B):=[(0,Zrx m l 2 3),(l,ZoF m),(2,Zc1 m),(3,Zqj m)]
def Mem.Thr (m : Mem) : Prop:=∀ i,(m.held i).1 = true → 0 ≤ (m.held i).2
theorem Mem.hold_get {m : Mem} {i : Nat} (h : i < m.mtx.length) : (m.mtx.map ZaM)[i]? = some (ZaM (m.held i)):=by
 rw [List.getElem?_map,Mem.held_get h];rfl
theorem Zni {m : Mem} (ht : m.Thr) (i : Nat) : (!decide (ZaM (m.held i) = -1)) = (m.held i).1:=by
 unfold ZaM
 cases hb : (m.held i).1 with
 | false=>rfl
 | true=>
  have:=ht i hb
  rw [if_pos rfl,decide_eq_false (by omega)];rfl
theorem Zg0 (m : Mem) (i : Nat) (h : i < m.mtx.length) (ht : m.Thr) : LSpec Tryz.prog 196 [.p 0 4 0 0,V.int i] (Q2 m 1) 4 (V.bool (m.held i).1) (Q2 m 1) 4:=by
 have hg:=Mem.hold_get h
 have hh:=Zni ht i
 have hl : (m.mtx.map ZaM).length = m.mtx.length:=List.length_map ..
 refine lspec tab_ok mix Tryz.func196 (by kernel_rfl) (by rfl) (by rfl) (by rfl) (by rfl) ?_
 (refine go ?_; try exact tt)
 refine atB h (go ?_)
 refine Yy hg (go ?_)
 rw [hh]
 exact .mk [] (go tt)
theorem Zle (m : Mem) (i : Nat) (h : i < m.mtx.length) (held ok : Bool) (th : Int) : LSpec Tryz.prog 197 [.p 0 4 0 0,V.int i,V.bool held,V.bool ok,V.int th] (Q2 m 1) 4 (.tup []) (Q2 { m with mtx:=if ok = true then m.mtx.set i (if held = true then (true,th) else (false,0)) else m.mtx } 1) 4:=by
 have hg:=Mem.hold_get h
 cases ok with
 | false=>
  rw [if_neg (by simp)]
  refine lspec tab_ok mix Tryz.func197 (by kernel_rfl) (by rfl) (by rfl) (by rfl) (by rfl) ?_
  (refine go ?_; try exact tt)
  exact .mk [] (go tt)
 | true=>
  rw [if_pos rfl]
  cases held with
  | true=>
   rw [if_pos rfl]
   refine lspec tab_ok mix Tryz.func197 (by kernel_rfl) (by rfl) (by rfl) (by rfl) (by rfl) ?_
   (refine go ?_; try exact tt)
   refine atB h (go ?_)
   refine Yy hg (go ?_)
   refine .mk [] (go ?_)
   exact cb (by simp [ZaM,QF,List.map_set]) (by (refine go ?_; try exact tt))
  | false=>
   rw [if_neg (by simp)]
   refine lspec tab_ok mix Tryz.func197 (by kernel_rfl) (by rfl) (by rfl) (by rfl) (by rfl) ?_
   (refine go ?_; try exact tt)
   refine atB h (go ?_)
   refine Yy hg (go ?_)
   refine .mk [] (go ?_)
   exact cb (by simp [ZaM,QF,List.map_set]) (by (refine go ?_; try exact tt))
def Zpw (kind th idx a b : Int) : V:=.agg [V.int kind,V.int th,V.int idx,V.int a,V.int b]
theorem Zrn (m : Mem) (th : Int) (i : Nat) (h : i < m.mtx.length) (ht : m.Thr) (h0 : 0 ≤ th) (hv : 0 ≤ m.viol ∧ m.viol < 2000000000) (a b : Int) : LSpec Tryz.prog 139 [.p 0 4 0 0,Zpw 7 th i a b] (Q2 m 1) 4 (V.bool (decide (m.held i = (true,th)))) (Q2 (m.touch th i) 1) 4:=by
 have hg:=Mem.hold_get h
 have hl : (m.mtx.map ZaM).length = m.mtx.length:=List.length_map ..
 unfold Mem.touch
 by_cases hh : m.held i = (true,th)
 · rw [if_pos hh,decide_eq_true hh]
   rw [hh] at hg
   have hd:=Zg0 m i h ht
   rw [hh] at hd
   refine lspec tab_ok mix Tryz.func139 (by kernel_rfl) (by rfl) (by rfl) (by rfl) (by rfl) ?_
   (refine go ?_; try exact tt)
   rw [show decide ((i : Int) < m.mtx.length) = true from decide_eq_true (by omega)]
   (refine go ?_; try exact tt)
   refine Yq hd [some 0,some 1,some 2,some 3] rfl rfl (go ?_)
   refine atB h (go ?_)
   refine Yy hg (go ?_)
   rw [show decide (ZaM (true,th) = th) = true from decide_eq_true rfl]
   (refine go ?_; try exact tt)
   refine .mk [] (go ?_);try exact tt
 · rw [if_neg hh,decide_eq_false hh]
   refine lspec tab_ok mix Tryz.func139 (by kernel_rfl) (by rfl) (by rfl) (by rfl) (by rfl) ?_
   (refine go ?_; try exact tt)
   rw [show decide ((i : Int) < m.mtx.length) = true from decide_eq_true (by omega)]
   (refine go ?_; try exact tt)
   refine Yq (Zg0 m i h ht) [some 0,some 1,some 2,some 3] rfl rfl (go ?_)
   cases hb : (m.held i).1 with
   | false=>
    (refine go ?_; try exact tt)
    exact .mk [] (go tt)
   | true=>
    have hne : ZaM (m.held i) ≠ th:=fun e=>hh (Prod.ext hb (by rw [← e];unfold ZaM;rw [if_pos hb]))
    (refine go ?_; try exact tt)
    refine atB h (go ?_)
    refine Yy hg (go ?_)
    rw [decide_eq_false hne]
    (refine go ?_; try exact tt)
    exact .mk [] (go tt)
theorem ZiN {m : Mem} (ht : m.Thr) {th : Int} (h0 : 0 ≤ th) (i : Nat) : (m.lock th i).1.Thr:=by
 intro j hj
 unfold Mem.lock at hj ⊢
 split at hj
 · rw [if_pos ‹_›] ;exact ht j hj
 · rw [if_neg ‹_›]
   unfold Mem.held at hj ⊢
   dsimp only at hj ⊢
   rw [List.getElem?_set] at hj ⊢
   split at hj
   · split at hj
     · rw [if_pos ‹_›,if_pos ‹_›];exact h0
     · cases hj
   · rw [if_neg ‹_›];exact ht j hj
theorem Zr3 (m : Mem) (th : Int) (i : Nat) (h : i < m.mtx.length) (ht : m.Thr) (hf : m.Fits) (a b : Int) : LSpec Tryz.prog 139 [.p 0 4 0 0,Zpw 5 th i a b] (Q2 m 1) 4 (V.bool (m.lock th i).2) (Q2 (m.lock th i).1 4) 5:=by
 have hg:=Mem.hold_get h
 have hl : (m.mtx.map ZaM).length = m.mtx.length:=List.length_map ..
 have hll:=hf.log
 unfold Mem.lock
 cases hb : (m.held i).1 with
 | true=>
  rw [if_pos rfl]
  refine lspec tab_ok mix Tryz.func139 (by kernel_rfl) (by rfl) (by rfl) (by rfl) (by rfl) ?_
  (refine go ?_; try exact tt)
  rw [show decide ((i : Int) < m.mtx.length) = true from decide_eq_true (by omega)]
  (refine go ?_; try exact tt)
  refine Za (Zg0 m i h ht) [some 0,some 1,some 2,some 3] [] rfl ?_
  rw [hb]
  (refine go ?_; try exact tt)
  refine Za (Zle m i h true false th) [some 0,some 1,some 2,some 3] [] rfl (go ?_)
  refine .mk [(4,3968)] (go ?_)
  exact cb (by simp [Acc.row]) (go tt)
 | false=>
  rw [if_neg (by simp)]
  refine lspec tab_ok mix Tryz.func139 (by kernel_rfl) (by rfl) (by rfl) (by rfl) (by rfl) ?_
  (refine go ?_; try exact tt)
  rw [show decide ((i : Int) < m.mtx.length) = true from decide_eq_true (by omega)]
  (refine go ?_; try exact tt)
  refine Za (Zg0 m i h ht) [some 0,some 1,some 2,some 3] [] rfl ?_
  rw [hb]
  (refine go ?_; try exact tt)
  refine Za (Zle m i h true true th) [some 0,some 1,some 2,some 3] [] rfl (go ?_)
  refine .mk [(4,4096)] (go ?_)
  exact cb (by simp [Acc.row]) (go tt)
theorem ZnP (m : Mem) (th : Int) (i : Nat) (h : i < m.mtx.length) (ht : m.Thr) (h0 : 0 ≤ th) (hf : m.Fits) (a b : Int) : LSpec Tryz.prog 139 [.p 0 4 0 0,Zpw 6 th i a b] (Q2 m 1) 4 (V.bool (m.unlock th i).2) (Q2 (m.unlock th i).1 4) 5:=by
 have hg:=Mem.hold_get h
 have hl : (m.mtx.map ZaM).length = m.mtx.length:=List.length_map ..
 have hll:=hf.log
 have hv:=hf.viol
 have hd:=Zg0 m i h ht
 unfold Mem.unlock
 by_cases hh : m.held i = (true,th)
 · rw [if_pos hh]
   rw [hh] at hg hd
   refine lspec tab_ok mix Tryz.func139 (by kernel_rfl) (by rfl) (by rfl) (by rfl) (by rfl) ?_
   (refine go ?_; try exact tt)
   rw [show decide ((i : Int) < m.mtx.length) = true from decide_eq_true (by omega)]
   (refine go ?_; try exact tt)
   refine Za hd [some 0,some 1,some 2,some 3] [] rfl (go ?_)
   refine atB h (go ?_)
   refine Yy hg (go ?_)
   rw [show decide (ZaM (true,th) = th) = true from decide_eq_true rfl]
   (refine go ?_; try exact tt)
   refine Za (Zle m i h false true th) [some 0,some 1,some 2,some 3] [] rfl (go ?_)
   refine .mk [(4,5312)] (go ?_)
   refine cb (by simp [Acc.row]) (go ?_);try exact tt
 · rw [if_neg hh]
   cases hb : (m.held i).1 with
   | false=>
    rw [hb] at hd
    refine lspec tab_ok mix Tryz.func139 (by kernel_rfl) (by rfl) (by rfl) (by rfl) (by rfl) ?_
    (refine go ?_; try exact tt)
    rw [show decide ((i : Int) < m.mtx.length) = true from decide_eq_true (by omega)]
    (refine go ?_; try exact tt)
    refine Za hd [some 0,some 1,some 2,some 3] [] rfl (go ?_)
    refine Za (Zle { m with viol:=m.viol + 1 } i h false false th) [some 0,some 1,some 2,some 3] [] rfl (go ?_)
    refine .mk [(4,5632)] (go ?_)
    exact cb (by simp [Acc.row,ZoP]) (go tt)
   | true=>
    rw [hb] at hd
    have hne : ZaM (m.held i) ≠ th:=fun e=>hh (Prod.ext hb (by rw [← e];unfold ZaM;rw [if_pos hb]))
    refine lspec tab_ok mix Tryz.func139 (by kernel_rfl) (by rfl) (by rfl) (by rfl) (by rfl) ?_
    (refine go ?_; try exact tt)
    rw [show decide ((i : Int) < m.mtx.length) = true from decide_eq_true (by omega)]
    (refine go ?_; try exact tt)
    refine Za hd [some 0,some 1,some 2,some 3] [] rfl (go ?_)
    refine atB h (go ?_)
    refine Yy hg (go ?_)
    rw [decide_eq_false hne]
    (refine go ?_; try exact tt)
    refine Za (Zle { m with viol:=m.viol + 1 } i h true false th) [some 0,some 1,some 2,some 3] [] rfl (go ?_)
    refine .mk [(4,5696)] (go ?_)
    exact cb (by simp [Acc.row,ZoP]) (go tt)
theorem ZqV (m : Mem) (th : Int) (i : Nat) (h : i < m.mtx.length) (ht : m.Thr) (hf : m.Fits) (a b : Int) : LSpec Tryz.prog 67 [.p 0 4 0 0,Zpw 5 th i a b] (Q2 m 1) 4 (.tup [V.int 0,V.bool (m.lock th i).2]) (Q2 (m.lock th i).1 4) 5:=by
 have hc:=Zr3 m th i h ht hf a b
 generalize m.lock th i = r at *
 refine lspec tab_ok mix Tryz.func67 (by kernel_rfl) (by rfl) (by rfl) (by rfl) (by rfl) ?_
 (refine go ?_; try exact tt)
 refine Za hc [some 0,some 1,some 2,some 3] [] rfl (go ?_)
 exact .mk [(4,576)] (go tt)
theorem Zgq (m : Mem) (th : Int) (i : Nat) (h : i < m.mtx.length) (ht : m.Thr) (h0 : 0 ≤ th) (hf : m.Fits) (a b : Int) : LSpec Tryz.prog 67 [.p 0 4 0 0,Zpw 6 th i a b] (Q2 m 1) 4 (.tup [V.int 0,V.bool (m.unlock th i).2]) (Q2 (m.unlock th i).1 4) 5:=by
 have hc:=ZnP m th i h ht h0 hf a b
 generalize m.unlock th i = r at *
 refine lspec tab_ok mix Tryz.func67 (by kernel_rfl) (by rfl) (by rfl) (by rfl) (by rfl) ?_
 (refine go ?_; try exact tt)
 refine Za hc [some 0,some 1,some 2,some 3] [] rfl (go ?_)
 exact .mk [(4,576)] (go tt)
theorem ZnZ (m : Mem) (th : Int) (i : Nat) (h : i < m.mtx.length) (ht : m.Thr) (h0 : 0 ≤ th) (hv : 0 ≤ m.viol ∧ m.viol < 2000000000) (a b : Int) : LSpec Tryz.prog 67 [.p 0 4 0 0,Zpw 7 th i a b] (Q2 m 1) 4 (.tup [V.int 0,V.bool (decide (m.held i = (true,th)))]) (Q2 (m.touch th i) 1) 4:=by
 have hc:=Zrn m th i h ht h0 hv a b
 generalize m.touch th i = r at *
 refine lspec tab_ok mix Tryz.func67 (by kernel_rfl) (by rfl) (by rfl) (by rfl) (by rfl) ?_
 (refine go ?_; try exact tt)
 refine Za hc [some 0,some 1,some 2,some 3] [] rfl (go ?_)
 exact .mk [] (go tt)
theorem ZnH (m : Mem) (th : Int) (i : Nat) (v : Int) (h : i < m.words.length) (hf : m.Fits) (b : Int) : LSpec Tryz.prog 67 [.p 0 4 0 0,Zpw 4 th i v b] (Q2 m 1) 4 (.tup [V.int 0,V.bool false]) (Q2 (m.store th i v) 4) 5:=by
 have hg:=Mem.word_get h
 have hw:=hf.words
 have hll:=hf.log
 refine lspec tab_ok mix Tryz.func67 (by kernel_rfl) (by rfl) (by rfl) (by rfl) (by rfl) ?_
 (refine go ?_; try exact tt)
 rw [show decide ((i : Int) < 0) = false from decide_eq_false (by omega)]
 (refine go ?_; try exact tt)
 rw [show decide ((m.words.length : Int) ≤ i) = false from decide_eq_false (by omega)]
 (refine go ?_; try exact tt)
 refine atB h (go ?_)
 refine Yy hg (go ?_)
 refine atB h (go ?_)
 refine Yy hg (go ?_)
 refine .mk [(4,4544)] (go ?_);try exact tt
 repeat (refine cb (by simp [Mem.store,Mem.load,Mem.put,Acc.row,QF,List.map_set]) ?_;(refine go ?_; try exact tt))
theorem Zs3 (m : Mem) (th : Int) (i : Nat) (o v : Int) (h : i < m.words.length) (hf : m.Fits) : LSpec Tryz.prog 67 [.p 0 4 0 0,Zpw 3 th i o v] (Q2 m 1) 4 (.tup [V.int 0,V.bool (m.cas th i o v).2]) (Q2 (m.cas th i o v).1 4) 5:=by
 have hg:=Mem.word_get h
 have hw:=hf.words
 have hll:=hf.log
 unfold Mem.cas
 by_cases e : m.word i = o
 · rw [if_pos e]
   refine lspec tab_ok mix Tryz.func67 (by kernel_rfl) (by rfl) (by rfl) (by rfl) (by rfl) ?_
   (refine go ?_; try exact tt)
   rw [show decide ((i : Int) < 0) = false from decide_eq_false (by omega)]
   (refine go ?_; try exact tt)
   rw [show decide ((m.words.length : Int) ≤ i) = false from decide_eq_false (by omega)]
   (refine go ?_; try exact tt)
   refine atB h (go ?_)
   refine Yy hg (go ?_)
   rw [decide_eq_true e]
   (refine go ?_; try exact tt)
   refine atB h (go ?_)
   refine Yy hg (go ?_)
   refine .mk [(4,5056)] (go ?_);try exact tt
   repeat (refine cb (by simp [Mem.store,Mem.load,Mem.put,Acc.row,QF,List.map_set]) ?_;(refine go ?_; try exact tt))
 · rw [if_neg e]
   refine lspec tab_ok mix Tryz.func67 (by kernel_rfl) (by rfl) (by rfl) (by rfl) (by rfl) ?_
   (refine go ?_; try exact tt)
   rw [show decide ((i : Int) < 0) = false from decide_eq_false (by omega)]
   (refine go ?_; try exact tt)
   rw [show decide ((m.words.length : Int) ≤ i) = false from decide_eq_false (by omega)]
   (refine go ?_; try exact tt)
   refine atB h (go ?_)
   refine Yy hg (go ?_)
   rw [decide_eq_false e]
   (refine go ?_; try exact tt)
   refine atB h (go ?_)
   refine Yy hg (go ?_)
   refine .mk [(4,4864)] (go ?_);try exact tt
   repeat (refine cb (by simp [Mem.store,Mem.load,Mem.put,Acc.row,QF,List.map_set]) ?_;(refine go ?_; try exact tt))
def Ye (s : Sto) (l : Nat) : List (Nat × B):=[(0,.rows 10 [ZrI s 1]),(1,Zrx s.m l 3 4),(l,ZoF s.m),(3,Zc1 s.m),(4,Zqj s.m)]
theorem YQ (s : Sto) (th : Int) (i : Nat) (h : i < s.m.mtx.length) (ht : s.m.Thr) (h0 : 0 ≤ th) (hv : 0 ≤ s.m.viol ∧ s.m.viol < 2000000000) : LSpec Tryz.prog 177 [.p 0 10 0 0,V.int th,V.int i] (Ye s 2) 5 (.tup []) (Ye (s.touch th [i]) 2) 5:=by
 have hc:=ZnZ s.m th i h ht h0 hv 0 0
 show LSpec _ _ _ _ _ _ (Ye { s with m:=s.m.touch th i } 2) 5
 generalize s.m.touch th i = m' at *
 refine lspec tab_ok mix Tryz.func177 (by kernel_rfl) (by rfl) (by rfl) (by rfl) (by rfl) ?_
 (refine go ?_; try exact tt)
 refine Za hc [some 1,some 2,some 3,some 4] [] rfl (go ?_)
 exact .mk [] (go tt)
theorem Zlr (s : Sto) (th : Int) (i : Nat) (v : Int) (h : i < s.m.words.length) (hf : s.m.Fits) : LSpec Tryz.prog 178 [.p 0 10 0 0,V.int th,V.int i,V.int v] (Ye s 2) 5 (.tup []) (Ye { s with m:=s.m.store th i v } 5) 6:=by
 have hc:=ZnH s.m th i v h hf 0
 generalize s.m.store th i v = m' at *
 refine lspec tab_ok mix Tryz.func178 (by kernel_rfl) (by rfl) (by rfl) (by rfl) (by rfl) ?_
 (refine go ?_; try exact tt)
 refine Za hc [some 1,some 2,some 3,some 4] [] rfl (go ?_)
 exact .mk [(5,576)] (go tt)
theorem ZmA (s : Sto) (i : Nat) (t q : Int) (h : i < s.slots.length) (hl : s.slots.length < 1000000) : LSpec Tryz.prog 179 [.p 0 10 0 0,V.int i,V.int t,V.int q] (Ye s 2) 5 (.tup []) (Ye { s with slots:=s.slots.set i ⟨0,0,t,q⟩ } 2) 5:=by
 refine lspec tab_ok mix Tryz.func179 (by kernel_rfl) (by rfl) (by rfl) (by rfl) (by rfl) ?_
 (refine go ?_; try exact tt)
 refine atB (by simpa using h) (go ?_)
 refine Y6 (s.slot i).row (by rw [List.nil_append,List.getElem?_map,Sto.slot_get h];rfl) (go ?_)
 refine .mk [] (go ?_)
 exact cb ⟨by simp,by rw [List.nil_append,List.map_set];rfl⟩ (by (refine go ?_; try exact tt))
theorem Zaz {th : Int} : ∀ (l : List Nat) {m : Mem},m.Thr → (m.touches th l).Thr:=fun l m h i=>by
 have:=Zg th l m
 unfold Mem.held
 rw [this.2.1];exact h i
theorem ZoK (s : Sto) (th t : Int) (l : List Int) (i : Nat) (h : s.idle = l ++ [(i : Int)]) (hf : s.Fits) (hv : s.m.viol < 100000000) (hm : 4 ≤ s.m.mtx.length) (ht : s.m.Thr) (h0 : 0 ≤ th) (hi : i < s.slots.length) (hw : i + 1 < s.m.words.length) (h64 : i < 64)
 (hg : (0 ≤ s.m.word (i + 1) ∧ s.m.word (i + 1) ≤ 9223372036854775807) ∧ 0 ≤ s.m.word (i + 1) / 4 ∧ s.m.word (i + 1) / 4 ≤ 1099511627776) :
 LSpec Tryz.prog 107 [.p 0 10 0 0,V.int th,V.int t] (Ye s 2) 5 (.tup [V.int (64 * (s.m.word (i + 1) / 4) + i),V.bool true]) (Ye ((s.touch th [3]).alloc1 th t l i) 5) 6:=by
 have hf1:=Sto.touch_fits hf th [3] (by simp;omega)
 obtain ⟨t1,t2,t3,t4,t5⟩:=Zg th [3] s.m
 have h1 : (s.touch th [3]).idle = l ++ [(i : Int)]:=h
 have hi1 : i < (s.touch th [3]).slots.length:=hi
 have hw1 : i + 1 < (s.touch th [3]).m.words.length:=by show i + 1 < (s.m.touches th [3]).words.length;rw [t1];exact hw
 have hwd : s.m.word (i + 1) = (s.touch th [3]).m.word (i + 1):=by
  show (s.m.words[i + 1]?).getD 0 = ((s.m.touches th [3]).words[i + 1]?).getD 0
  rw [t1]
 have hvv:=hf.mem.viol
 have hg1:=YQ s th 3 (by omega) ht h0 ⟨hvv.1,by omega⟩
 rw [hwd] at hg ⊢
 clear t1 t2 t3 t4 t5 hwd hi hw h
 generalize s.touch th [3] = s1 at *
 have hid:=hf1.idle
 have hnx:=hf1.next
 have hget : s1.idle[l.length]? = some (i : Int):=by rw [h1];simp
 have hlen : s1.idle.length = l.length + 1:=by rw [h1];simp
 have hml : (s1.idle.map QF).length = s1.idle.length:=List.length_map ..
 refine lspec tab_ok mix Tryz.func107 (by kernel_rfl) (by rfl) (by rfl) (by rfl) (by rfl) ?_
 (refine go ?_; try exact tt)
 refine Za hg1 [some 0,some 1,some 2,some 3,some 4] [] rfl (go ?_)
 rw [show decide (((s1.idle.map QF).length : Int) = 0) = false from decide_eq_false (by omega)]
 (refine go ?_; try exact tt)
 refine QI l.length i (by omega) hget (go ?_)
 refine slB 0 l.length rfl (by show _ = _;omega) (by omega) ?_
 rw [show ((s1.idle.map QF).drop 0).take (l.length - 0) = l.map QF by rw [h1];simp]
 (refine go ?_; try exact tt)
 refine Za (ZmA { s1 with idle:=l } i t s1.next hi1 hf1.slots) [some 0,some 1,some 2,some 3,some 4] [2240] rfl (go ?_)
 refine wrB (by show -9223372036854775808 ≤ s1.next + 1 ∧ s1.next + 1 ≤ 9223372036854775807;omega) (go ?_)
 rw [show (1 + (i : Int)) = ((i + 1 : Nat) : Int) by omega]
 refine atB hw1 (go ?_)
 refine Yy (Mem.word_get hw1) (go ?_)
 refine Zh (ZeG (s1.m.word (i + 1)) hg.1) (go ?_)
 refine Zh (Zby (s1.m.word (i + 1) / 4) 1 ⟨⟨hg.2.1,by have:=hg.2.2;omega⟩,by omega⟩) (go ?_)
 rw [show (1 + (i : Int)) = ((i + 1 : Nat) : Int) by omega]
 refine Za (Zlr { s1 with idle:=l,slots:=s1.slots.set i ⟨0,0,t,s1.next⟩,next:=s1.next + 1 } th (i + 1) (4 * (s1.m.word (i + 1) / 4) + 1) hw1 hf1.mem) [some 0,some 1,some 2,some 3,some 4] [] rfl (go ?_)
 refine Zh (Zsk i (s1.m.word (i + 1) / 4) ⟨⟨hg.2.1,by have:=hg.2.2;omega⟩,by omega⟩) (go ?_)
 exact .mk [(5,5056)] (go tt)
theorem Zq2 (s : Sto) (th : Int) (i : Nat) (hf : s.Fits) (hv : s.m.viol < 100000000) (hm : 4 ≤ s.m.mtx.length) (ht : s.m.Thr) (h0 : 0 ≤ th) (hi : i < s.slots.length) (hw : i + 1 < s.m.words.length)
 (hg : (0 ≤ s.m.word (i + 1) ∧ s.m.word (i + 1) ≤ 9223372036854775807) ∧ 0 ≤ s.m.word (i + 1) / 4 ∧ s.m.word (i + 1) / 4 ≤ 1099511627776) :
 LSpec Tryz.prog 99 [.p 0 10 0 0,V.int th,V.int i] (Ye s 2) 5 (.tup []) (Ye ((s.touch th [3]).free1 th i) 5) 6:=by
 have hf1:=Sto.touch_fits hf th [3] (by simp;omega)
 obtain ⟨t1,t2,t3,t4,t5⟩:=Zg th [3] s.m
 have hi1 : i < (s.touch th [3]).slots.length:=hi
 have hw1 : i + 1 < (s.touch th [3]).m.words.length:=by show i + 1 < (s.m.touches th [3]).words.length;rw [t1];exact hw
 have hwd : s.m.word (i + 1) = (s.touch th [3]).m.word (i + 1):=by
  show (s.m.words[i + 1]?).getD 0 = ((s.m.touches th [3]).words[i + 1]?).getD 0
  rw [t1]
 have hvv:=hf.mem.viol
 have hg1:=YQ s th 3 (by omega) ht h0 ⟨hvv.1,by omega⟩
 rw [hwd] at hg
 clear t1 t2 t3 t4 t5 hwd hi hw
 generalize s.touch th [3] = s1 at *
 have hid:=hf1.idle
 have hsl:=hf1.slots
 have hww:=hf1.mem.words
 refine lspec tab_ok mix Tryz.func99 (by kernel_rfl) (by rfl) (by rfl) (by rfl) (by rfl) ?_
 (refine go ?_; try exact tt)
 refine Za hg1 [some 0,some 1,some 2,some 3,some 4] [] rfl (go ?_)
 rw [show (1 + (i : Int)) = ((i + 1 : Nat) : Int) by omega]
 refine atB hw1 (go ?_)
 refine Yy (Mem.word_get hw1) (go ?_)
 refine Zh (ZeG (s1.m.word (i + 1)) hg.1) (go ?_)
 refine Zh (Zby (s1.m.word (i + 1) / 4 + 1) 0 ⟨⟨by omega,by have:=hg.2.2;omega⟩,by omega⟩) (go ?_)
 rw [show (1 + (i : Int)) = ((i + 1 : Nat) : Int) by omega]
 refine Za (Zlr s1 th (i + 1) (4 * (s1.m.word (i + 1) / 4 + 1) + 0) hw1 hf1.mem) [some 0,some 1,some 2,some 3,some 4] [] rfl (go ?_)
 refine Za (ZmA { s1 with m:=s1.m.store th (i + 1) (4 * (s1.m.word (i + 1) / 4 + 1) + 0) } i 0 0 hi1 hsl) [some 0,some 1,some 1536,some 3,some 4] [] rfl (go ?_)
 refine .mk [(5,1536)] (go ?_)
 exact cb ⟨by simp [Sto.free1],by simp [Sto.free1,QF]⟩ (by (refine go ?_; try exact tt))
theorem Ze4 (s : Sto) (th : Int) (q : Lad) (hf : s.Fits) (hw : 0 < s.m.words.length) : LSpec Tryz.prog 209 [.p 0 10 0 0,V.int th,q.v] (Ye s 2) 5 (.tup []) (Ye (s.replace th q) 5) 6:=by
 unfold Sto.replace
 by_cases h : q.topStart = s.q.topStart
 · rw [if_pos h]
   refine lspec tab_ok mix Tryz.func209 (by kernel_rfl) (by rfl) (by rfl) (by rfl) (by rfl) ?_
   (refine go ?_; try exact tt)
   rw [show (!decide (q.topStart = s.q.topStart)) = false by rw [decide_eq_true h];rfl]
   (refine go ?_; try exact tt)
   refine .mk [(5,2)] (go ?_);try exact tt
 · rw [if_neg h]
   refine lspec tab_ok mix Tryz.func209 (by kernel_rfl) (by rfl) (by rfl) (by rfl) (by rfl) ?_
   (refine go ?_; try exact tt)
   rw [show (!decide (q.topStart = s.q.topStart)) = true by rw [decide_eq_false h];rfl]
   (refine go ?_; try exact tt)
   refine Za (Zlr s th 0 q.topStart hw hf.mem) [some 0,some 1,some 2,some 3,some 4] [] rfl (go ?_)
   exact .mk [(5,896)] (go tt)
theorem Zeg (s : Sto) (th : Int) (i : Nat) (l : List Nat) : (s.touch th [i]).touch th l = s.touch th (i :: l):=rfl
theorem Zjg (s : Sto) (th : Int) (hm : 4 ≤ s.m.mtx.length) (ht : s.m.Thr) (h0 : 0 ≤ th) (hv : 0 ≤ s.m.viol ∧ s.m.viol < 1000000000) : LSpec Tryz.prog 207 [.p 0 10 0 0,V.int th] (Ye s 2) 5 (.tup []) (Ye (s.touch th [0,1,2]) 2) 5:=by
 have h1:=YQ s th 0 (by omega) ht h0 ⟨hv.1,by omega⟩
 obtain ⟨a1,a2,a3,a4,a5⟩:=Zg th [0] s.m
 have h2:=YQ (s.touch th [0]) th 1 (by show 1 < (s.m.touches th [0]).mtx.length;rw [a2];omega) (Zaz [0] ht) h0 (by show 0 ≤ (s.m.touches th [0]).viol ∧ (s.m.touches th [0]).viol < 2000000000;simp only [List.length_cons,List.length_nil] at a5;omega)
 obtain ⟨b1,b2,b3,b4,b5⟩:=Zg th [0,1] s.m
 have h3:=YQ (s.touch th [0,1]) th 2 (by show 2 < (s.m.touches th [0,1]).mtx.length;rw [b2];omega) (Zaz [0,1] ht) h0 (by show 0 ≤ (s.m.touches th [0,1]).viol ∧ (s.m.touches th [0,1]).viol < 2000000000;simp only [List.length_cons,List.length_nil] at b5;omega)
 rw [Zeg] at h2
 rw [show (s.touch th [0,1]).touch th [2] = s.touch th [0,1,2] from rfl] at h3
 clear a1 a2 a3 a4 a5 b1 b2 b3 b4 b5
 generalize s.touch th [0,1,2] = s3 at *
 generalize s.touch th [0,1] = s2 at *
 generalize s.touch th [0] = s1 at *
 refine lspec tab_ok mix Tryz.func207 (by kernel_rfl) (by rfl) (by rfl) (by rfl) (by rfl) ?_
 (refine go ?_; try exact tt)
 refine Za h1 [some 0,some 1,some 2,some 3,some 4] [] rfl (go ?_)
 refine Za h2 [some 0,some 1,some 2,some 3,some 4] [] rfl (go ?_)
 refine Za h3 [some 0,some 1,some 2,some 3,some 4] [] rfl (go ?_)
 exact .mk [] (go tt)
theorem ZpX (s : Sto) (th : Int) {q : Lad} {it : Item} {ok : Bool} (hq : PSpec Tryz.prog 208 [s.q.v] (.tup [q.v,it.v,V.bool ok])) (hf : s.Fits) (hv : s.m.viol < 100000000) (hm : 4 ≤ s.m.mtx.length) (ht : s.m.Thr) (h0 : 0 ≤ th) (hw : 0 < s.m.words.length) :
 LSpec Tryz.prog 147 [.p 0 10 0 0,V.int th] (Ye s 2) 5 (.tup [it.v,V.bool ok]) (Ye (s.take th q) 5) 6:=by
 have hf1:=Sto.touch_fits hf th [0,1,2] (by simp;omega)
 obtain ⟨t1,_⟩:=Zg th [0,1,2] s.m
 have hvv:=hf.mem.viol
 have h1:=Zjg s th hm ht h0 ⟨hvv.1,by omega⟩
 have hq1 : (s.touch th [0,1,2]).q = s.q:=rfl
 have hw1 : 0 < (s.touch th [0,1,2]).m.words.length:=by show 0 < (s.m.touches th [0,1,2]).words.length;rw [t1];exact hw
 have h2:=Ze4 (s.touch th [0,1,2]) th q hf1 hw1
 unfold Sto.take
 rw [← hq1] at hq
 clear hq1 t1 hw1
 generalize (s.touch th [0,1,2]).replace th q = s2 at *
 generalize s.touch th [0,1,2] = s1 at *
 refine lspec tab_ok mix Tryz.func147 (by kernel_rfl) (by rfl) (by rfl) (by rfl) (by rfl) ?_
 (refine go ?_; try exact tt)
 refine Za h1 [some 0,some 1,some 2,some 3,some 4] [] rfl (go ?_)
 refine Zh hq (go ?_)
 refine Za h2 [some 0,some 1,some 2,some 3,some 4] [] rfl (go ?_)
 exact .mk [(5,1472)] (go tt)
theorem Zqv (s : Sto) (th : Int) {q : Lad} {it : Item} {ok : Bool} (hq : PSpec Tryz.prog 210 [s.q.v] (.tup [q.v,it.v,V.bool ok])) (hf : s.Fits) (hv : s.m.viol < 100000000) (hm : 4 ≤ s.m.mtx.length) (ht : s.m.Thr) (h0 : 0 ≤ th) (hw : 0 < s.m.words.length) :
 LSpec Tryz.prog 148 [.p 0 10 0 0,V.int th] (Ye s 2) 5 (.tup []) (Ye (s.take th q) 5) 6:=by
 have hf1:=Sto.touch_fits hf th [0,1,2] (by simp;omega)
 obtain ⟨t1,_⟩:=Zg th [0,1,2] s.m
 have hvv:=hf.mem.viol
 have h1:=Zjg s th hm ht h0 ⟨hvv.1,by omega⟩
 have hq1 : (s.touch th [0,1,2]).q = s.q:=rfl
 have hw1 : 0 < (s.touch th [0,1,2]).m.words.length:=by show 0 < (s.m.touches th [0,1,2]).words.length;rw [t1];exact hw
 have h2:=Ze4 (s.touch th [0,1,2]) th q hf1 hw1
 unfold Sto.take
 rw [← hq1] at hq
 clear hq1 t1 hw1
 generalize (s.touch th [0,1,2]).replace th q = s2 at *
 generalize s.touch th [0,1,2] = s1 at *
 refine lspec tab_ok mix Tryz.func148 (by kernel_rfl) (by rfl) (by rfl) (by rfl) (by rfl) ?_
 (refine go ?_; try exact tt)
 refine Za h1 [some 0,some 1,some 2,some 3,some 4] [] rfl (go ?_)
 refine Zh hq (go ?_)
 refine Za h2 [some 0,some 1,some 2,some 3,some 4] [] rfl (go ?_)
 exact .mk [(5,1344)] (go tt)
def Zn7 (q : Lad) : Prop:=∀ r ∈ q.rungs,PSpec Tryz.prog 232 [r.v] (V.int (r.at r.cur))
theorem Zd7 (s : Sto) (t : Int) (hc : Zn7 s.q) (hl : s.q.rungs.length < 1000000) :
 LSpec Tryz.prog 184 [.p 0 10 0 0,V.int t] (Ye s 2) 5 (V.bool (ZkE s.q t)) (Ye s 2) 5:=by
 refine lspec tab_ok mix Tryz.func184 (by kernel_rfl) (by rfl) (by rfl) (by rfl) (by rfl) ?_
 (refine go ?_; try exact tt)
 refine Y3 tab_ok mix [0,1] [0,1,2,3,4] (fun i : Nat=>[(5,V.int i)]) (fun i=>[]) (fun i=>i ≤ s.q.rungs.length ∧ ∀ r ∈ s.q.rungs.take i,ZnA r t = false) (fun i=>s.q.rungs.length - i) [] 0 rfl ⟨by omega,by simp⟩ (by (refine go ?_; try exact tt)) ?_
 rintro i ⟨h1,h2⟩
 (refine go ?_; try exact tt)
 refine Zf (fun u=>?_) (fun u=>?_) <;> (refine go ?_; try exact tt)
 · have u' : i < s.q.rungs.length:=by simpa using u
   obtain ⟨r,hri⟩:=ZF u'
   refine Zcw hri (go ?_)
   refine Zh (hc r (List.mem_of_getElem? hri)) (go ?_)
   refine Zf (fun e=>?_) (fun e=>?_) <;> (refine go ?_; try exact tt)
   · have ha : ZkE s.q t = true:=by
      unfold ZkE
      rw [List.any_eq_true]
      exact ⟨r,List.mem_of_getElem? hri,by unfold ZnA;simpa using e⟩
     rw [ha]
     refine .mk [] (go ?_);try exact tt
   · refine .mk [] (i + 1) ⟨by omega,fun x hx=>?_⟩ (by omega) ?_
     · rw [List.take_add_one,hri,Option.toList_some] at hx
       rcases List.mem_append.1 hx with hx | hx
       · exact h2 x hx
       · rw [List.mem_singleton] at hx;subst hx
         unfold ZnA;simpa using e
     (refine go ?_; try exact tt)
 · have e : i = s.q.rungs.length:=by simp at u;omega
   have ha : ZkE s.q t = false:=by
    unfold ZkE
    rw [List.any_eq_false]
    intro x hx
    have:=h2 x (by rw [e,List.take_length];exact hx)
    rw [this];simp
   rw [ha]
   exact .mk [] (go tt)
theorem ZsT (s : Sto) (th : Int) (i : Nat) (h : i < s.slots.length) (hf : s.Fits) (hv : s.m.viol < 100000000) (hm : 4 ≤ s.m.mtx.length) (ht : s.m.Thr) (h0 : 0 ≤ th) (hc : Zn7 s.q) (hl : s.q.rungs.length < 1000000)
 (hq : PSpec Tryz.prog 206 [s.q.v,(s.item i).v] ((Z6 s.q (s.item i)).v)) :
 LSpec Tryz.prog 146 [.p 0 10 0 0,V.int th,V.int i] (Ye s 2) 5 (.tup []) (Ye (s.put th i) 2) 5:=by
 have hg:=Sto.slot_get h
 have hvv:=hf.mem.viol
 unfold Sto.put Sto.putL
 by_cases g : s.q.topStart ≤ (s.slot i).time
 · rw [if_pos g]
   have h1:=YQ s th 0 (by omega) ht h0 ⟨hvv.1,by omega⟩
   have e1 : (s.touch th [0]).q = s.q:=rfl
   refine lspec tab_ok mix Tryz.func146 (by kernel_rfl) (by rfl) (by rfl) (by rfl) (by rfl) ?_
   (refine go ?_; try exact tt)
   refine Zcw hg (go ?_)
   rw [decide_eq_true g]
   (refine go ?_; try exact tt)
   refine Za h1 [some 0,some 1,some 2,some 3,some 4] [] rfl (go ?_)
   refine Zn hq (go ?_)
   refine .mk [] (go ?_);try exact tt
 · rw [if_neg g]
   cases hx : ZkE s.q (s.slot i).time with
   | true=>
    rw [if_pos rfl]
    have h1:=YQ s th 1 (by omega) ht h0 ⟨hvv.1,by omega⟩
    refine lspec tab_ok mix Tryz.func146 (by kernel_rfl) (by rfl) (by rfl) (by rfl) (by rfl) ?_
    (refine go ?_; try exact tt)
    refine Zcw hg (go ?_)
    rw [decide_eq_false g]
    (refine go ?_; try exact tt)
    refine Za h1 [some 0,some 1,some 2,some 3,some 4] [] rfl (go ?_)
    refine Za (Zd7 (s.touch th [1]) (s.slot i).time hc hl) [some 0,some 1,some 2,some 3,some 4] [] rfl ?_
    rw [show ZkE (s.touch th [1]).q (s.slot i).time = true from hx]
    (refine go ?_; try exact tt)
    refine Zn hq (go ?_)
    exact .mk [] (go tt)
   | false=>
    rw [if_neg (by simp)]
    have h1:=YQ s th 1 (by omega) ht h0 ⟨hvv.1,by omega⟩
    obtain ⟨a1,a2,a3,a4,a5⟩:=Zg th [1] s.m
    have h2:=YQ (s.touch th [1]) th 2 (by show 2 < (s.m.touches th [1]).mtx.length;rw [a2];omega) (Zaz [1] ht) h0 (by show 0 ≤ (s.m.touches th [1]).viol ∧ (s.m.touches th [1]).viol < 2000000000;simp only [List.length_cons,List.length_nil] at a5;omega)
    rw [Zeg] at h2
    refine lspec tab_ok mix Tryz.func146 (by kernel_rfl) (by rfl) (by rfl) (by rfl) (by rfl) ?_
    (refine go ?_; try exact tt)
    refine Zcw hg (go ?_)
    rw [decide_eq_false g]
    (refine go ?_; try exact tt)
    refine Za h1 [some 0,some 1,some 2,some 3,some 4] [] rfl (go ?_)
    refine Za (Zd7 (s.touch th [1]) (s.slot i).time hc hl) [some 0,some 1,some 2,some 3,some 4] [] rfl ?_
    rw [show ZkE (s.touch th [1]).q (s.slot i).time = false from hx]
    (refine go ?_; try exact tt)
    refine Za h2 [some 0,some 1,some 2,some 3,some 4] [] rfl (go ?_)
    refine Zn hq (go ?_)
    exact .mk [] (go tt)
theorem Zn1 (w x : Nat) (hw : w ≤ 256) (hx : x ≤ 256) : LSpec Tryz.prog 138 [V.int w,V.int x] [] 0 (.p 0 4 0 0) (Q2 (ZnE w x) 1) 4:=by
 refine lspec tab_ok mix Tryz.func138 (by kernel_rfl) (by rfl) (by rfl) (by rfl) (by rfl) ?_
 (refine go ?_; try exact tt)
 rw [decide_eq_false (show ¬ (w : Int) < 0 by omega)]
 (refine go ?_; try exact tt)
 rw [decide_eq_false (show ¬ (256 : Int) < w by omega)]
 (refine go ?_; try exact tt)
 rw [decide_eq_false (show ¬ (x : Int) < 0 by omega)]
 (refine go ?_; try exact tt)
 rw [decide_eq_false (show ¬ (256 : Int) < x by omega)]
 (refine go ?_; try exact tt)
 rw [show (if (256 : Int) < (if (w : Int) < 0 then (0 : Int) else (w : Int)) then (256 : Int) else (if (w : Int) < 0 then (0 : Int) else (w : Int))) = (w : Int) by rw [if_neg (show ¬ (w : Int) < 0 by omega),if_neg (by omega)]]
 refine Zoz tab_ok w [.c (.int .i64 0)] _ rfl (.c _ rfl .nil) rfl rfl (by omega) rfl (go ?_)
 refine Y3 tab_ok mix [1,5] [1216] (fun i : Nat=>[(6,V.int i)]) (fun i=>[(1344,.rows 4 [[.ac 1216 1 w,.ac 5 1 (List.replicate i (-1 : Int)).length,.c (.slice none 0 0),V.int 0]]),(5,.dat 1 ((List.replicate i (-1 : Int)).map QF))]) (fun i=>i ≤ x) (fun i=>x - i) [(5,1537)] 0 rfl (by omega) (by (refine go ?_; try exact tt)) ?_
 rintro i hi
 (refine go ?_; try exact tt)
 refine Zf (fun u=>?_) (fun u=>?_) <;> (refine go ?_; try exact tt)
 · refine .mk [(5,2112)] (i + 1) (by omega) (by omega) (go ?_);try exact tt
   repeat (refine cb (by simp [List.replicate_succ',QF]) ?_;(refine go ?_; try exact tt))
 · have e : i = x:=by omega
   subst e
   refine .mk [(0,1344),(1,5377),(2,1216),(3,5)] (go ?_);try exact tt
   repeat (refine cb (by simp [ZnE,ZaM,QF]) ?_;(refine go ?_; try exact tt))
def Zd6 (n i : Nat) : List Int:=(List.range i).map fun k : Nat=>(n : Int) - 1 - k
theorem Zh2 (n : Nat) : Zd6 n n = Zkr n:=by
 unfold Zd6 Zkr
 apply List.ext_getElem
 · simp
 · intro k h1 h2
   simp at h1
   simp
   omega
theorem Zp8 (n : Nat) (h : 1 ≤ n ∧ n ≤ 64) : PSpec Tryz.prog 137 [V.int n] (.tup [.agg [ZoJ (List.replicate n slt0),ZkI (Zkr n),V.int 0],V.int 0]):=by
 have hdl : ∀ i,(Zd6 n i).length = i:=fun i=>by simp [Zd6]
 rw [← Zh2]
 refine pspec tab_ok mix Tryz.func137 (by kernel_rfl) rfl rfl ?_
 (refine go ?_; try exact tt)
 rw [show decide ((n : Int) < 1) = false from decide_eq_false (by omega)]
 (refine go ?_; try exact tt)
 rw [show decide ((64 : Int) < n) = false from decide_eq_false (by omega)]
 (refine go ?_; try exact tt)
 refine Y3 tab_ok mix [0,2,4] [0] (fun i : Nat=>[(5,V.int i)]) (fun i=>[(576,.rows 3 [[.ac 1 4 (List.replicate i slt0).length,.ac 2 1 (Zd6 n i).length,V.int 0]]),(1,.dat 4 ((List.replicate i slt0).map Slt.row)),(2,.dat 1 ((Zd6 n i).map QF))]) (fun i=>i ≤ n) (fun i=>n - i) [(1,769),(2,770)] 0 rfl (by omega) (by (refine go ?_; try exact tt)) ?_
 rintro i hi
 (refine go ?_; try exact tt)
 by_cases c : (i : Int) < 64
 · rw [decide_eq_true c]
   (refine go ?_; try exact tt)
   refine Zf (fun u=>?_) (fun u=>?_) <;> (refine go ?_; try exact tt)
   · have u' : i < n:=by omega
     refine cb ⟨(List.length_map ..).symm,by rw [hdl];simp;omega⟩ (go ?_)
     refine .mk [(1,1472),(2,2112)] (i + 1) (by omega) (by omega) (go ?_);try exact tt
     repeat (refine cb (by simp [Zd6,List.range_succ,List.replicate_succ',QF,Slt.row,slt0]) ?_;(refine go ?_; try exact tt))
   · obtain rfl : i = n:=by omega
     refine Qo (go ?_);try exact tt
     repeat (refine cb ⟨by simp [hdl],by rfl⟩ ?_;(refine go ?_; try exact tt))
 · rw [decide_eq_false c]
   (refine go ?_; try exact tt)
   obtain rfl : i = n:=by omega
   refine Qo (go ?_);try exact tt
   repeat (refine cb ⟨by simp [hdl],by rfl⟩ ?_;(refine go ?_; try exact tt))
theorem Zsj (n : Nat) (h : 1 ≤ n ∧ n ≤ 64) : LSpec Tryz.prog 66 [V.int n] [] 0 (.p 0 10 0 0) (Ye (ZbX n) 2) 5:=by
 unfold ZbX
 refine lspec tab_ok mix Tryz.func66 (by kernel_rfl) (by rfl) (by rfl) (by rfl) (by rfl) ?_
 (refine go ?_; try exact tt)
 refine Zh (Zp8 n h) (go ?_)
 rw [show ((n : Int) + 1) = ((n + 1 : Nat) : Int) by omega,show V.c (Value.int IntKind.i64 4) = V.int ((4 : Nat) : Int) from rfl]
 refine Zu (Zn1 (n + 1) 4 (by omega) (by omega)) [] [] (go ?_)
 exact .mk [(0,1088),(1,896),(2,897),(3,898),(4,899)] (go tt)
def Zcs (w g : Int) : Bool:=(!decide (w / 4 = g)) || (decide (w % 4 = 0) || decide (w % 4 = 3))
theorem ZjA (w : Int) (h : 0 ≤ w ∧ w ≤ 2305843009213693952) : PSpec Tryz.prog 175 [V.int w] (V.bool (decide (w % 4 = 2))):=by
 refine pspec tab_ok mix Tryz.func175 (by kernel_rfl) rfl rfl ?_
 (refine go ?_; try exact tt)
 refine Zh (Zjc w h) (go ?_)
 exact .same rfl
theorem ZeW (w : Int) (h : 0 ≤ w ∧ w ≤ 4398046511104) : PSpec Tryz.prog 172 [V.int w] (V.int (4 * (w / 4) + 3)):=by
 refine pspec tab_ok mix Tryz.func172 (by kernel_rfl) rfl rfl ?_
 (refine go ?_; try exact tt)
 refine Zh (ZrX w) (go ?_)
 refine Zh (Zmg (w / 4) 3 ⟨⟨by omega,by omega⟩,by omega⟩) (go ?_)
 exact .same rfl
theorem Zl2 (w g : Int) (h : 0 ≤ w ∧ w ≤ 2305843009213693952) : PSpec Tryz.prog 173 [V.int w,V.int g] (V.bool (Zcs w g)):=by
 unfold Zcs
 refine pspec tab_ok mix Tryz.func173 (by kernel_rfl) rfl rfl ?_
 (refine go ?_; try exact tt)
 refine Zh (Zjc w h) (go ?_)
 refine Zh (ZrX w) (go ?_)
 by_cases c : w / 4 = g
 · rw [decide_eq_true c]
   (refine go ?_; try exact tt)
   by_cases d : w % 4 = 0
   · rw [decide_eq_true d]
     (refine go ?_; try exact tt)
     exact .same rfl
   · rw [decide_eq_false d]
     (refine go ?_; try exact tt)
     exact .same rfl
 · rw [decide_eq_false c]
   (refine go ?_; try exact tt)
   exact .same rfl
structure COp where
 th : Int
 h : Int
 ph : Int
 seen : Int
 done : Bool
 blk : Bool
def ZrE (c : COp) (a : Nat) : B:=.rows 10 [[.p a 10 0 0,V.int c.th,V.int c.h,V.int c.ph,V.int c.seen,V.int 0,V.int 0,V.bool c.done,.c (.slice none 0 0),V.bool c.blk]]
def ZhA (c : COp) (s : Sto) (l : Nat) : List (Nat × B):=[(0,ZrE c 1),(1,.rows 10 [ZrI s 2]),(2,ZrF s.m l 4 5),(l,ZoF s.m),(4,Zc1 s.m),(5,Zs2 s.m)]
theorem Zut (s : Sto) (th h : Int) (k t lim bo : Int) : LSpec Tryz.prog 38 [.p 0 10 0 0,V.int th,.agg [V.int k,V.int t,V.int h,V.int lim,V.int bo]] (ZE s 2) 5 (.p 5 10 0 0) (ZE s 2 ++ [(5,ZrE ⟨th,h,0,0,false,false⟩ 0)]) 6:=by
 refine lspec tab_ok mix Tryz.func38 (by kernel_rfl) (by rfl) (by rfl) (by rfl) (by rfl) ?_
 (refine go ?_; try exact tt)
 exact .mk [(5,512)] (go tt)
theorem Zob (h : Int) : -1 ≤ ZM h ∧ ZM h ≤ 63:=by
 unfold ZM
 split
 · omega
 · omega
theorem ZiG (c : COp) (s : Sto) : LSpec Tryz.prog 93 [.p 0 10 0 0] (ZhA c s 3) 6 (.tup [V.int (1 + ZM c.h),V.bool (decide (0 ≤ ZM c.h ∧ ZM c.h < s.slots.length))]) (ZhA c s 3) 6:=by
 refine lspec tab_ok mix Tryz.func93 (by kernel_rfl) (by rfl) (by rfl) (by rfl) (by rfl) ?_
 (refine go ?_; try exact tt)
 have hb:=Zob c.h
 refine Zh (Zs4 c.h) ?_
 generalize ZM c.h = k at *
 (refine go ?_; try exact tt)
 by_cases d : 0 ≤ k
 · rw [decide_eq_true d]
   (refine go ?_; try exact tt)
   refine Za (Znf s) [some 1,some 2,some 3,some 4,some 5] [] rfl (go ?_)
   refine .mk [] ?_
   rw [show decide (0 ≤ k ∧ k < (s.slots.length : Int)) = decide (k < (s.slots.length : Int)) by simp [d]]
   (refine go ?_; try exact tt)
 · rw [decide_eq_false d]
   (refine go ?_; try exact tt)
   refine .mk [] ?_
   rw [show decide (0 ≤ k ∧ k < (s.slots.length : Int)) = false from decide_eq_false (fun e=>d e.1)]
   (refine go ?_; try exact tt)
def COp.load (c : COp) (w : Int) : COp:=
 if Zcs w (Zdi c.h) = true then { c with seen:=w,ph:=2 }
 else if w % 4 = 2 then { c with seen:=w,blk:=true }
 else { c with seen:=w,ph:=1 }
theorem Ztc (c : COp) (s : Sto) (i : Nat) (hi : i < s.m.words.length) (hf : s.Fits) (hw : 0 ≤ s.m.word i ∧ s.m.word i ≤ 2305843009213693952) :
 LSpec Tryz.prog 95 [.p 0 10 0 0,V.int i] (ZhA c s 3) 6 (.tup []) (ZhA (c.load (s.m.word i)) { s with m:=s.m.load c.th i } 6) 7:=by
 have hl:=ZpV s.m c.th i hi hf.mem
 generalize s.m.load c.th i = m' at *
 generalize s.m.word i = w at *
 unfold COp.load
 cases hs : Zcs w (Zdi c.h) with
 | true=>
  rw [if_pos rfl]
  refine lspec tab_ok mix Tryz.func95 (by kernel_rfl) (by rfl) (by rfl) (by rfl) (by rfl) ?_
  (refine go ?_; try exact tt)
  refine Yq (ZB s) [some 1,some 2,some 3,some 4,some 5] rfl rfl (go ?_)
  refine Zu hl [some 2,some 3,some 4,some 5] [] (go ?_)
  refine Zn (ZbN c.h) (go ?_)
  refine Zn (Zl2 w (Zdi c.h) hw) ?_
  rw [hs]
  (refine go ?_; try exact tt)
  exact .mk [(6,768)] (go tt)
 | false=>
  rw [if_neg (by simp)]
  by_cases d : w % 4 = 2
  · rw [if_pos d]
    refine lspec tab_ok mix Tryz.func95 (by kernel_rfl) (by rfl) (by rfl) (by rfl) (by rfl) ?_
    (refine go ?_; try exact tt)
    refine Yq (ZB s) [some 1,some 2,some 3,some 4,some 5] rfl rfl (go ?_)
    refine Zu hl [some 2,some 3,some 4,some 5] [] (go ?_)
    refine Zn (ZbN c.h) (go ?_)
    refine Zn (Zl2 w (Zdi c.h) hw) ?_
    rw [hs]
    (refine go ?_; try exact tt)
    refine Zh (ZjA w hw) ?_
    rw [decide_eq_true d]
    (refine go ?_; try exact tt)
    refine .mk [(6,768)] (go ?_);try exact tt
  · rw [if_neg d]
    refine lspec tab_ok mix Tryz.func95 (by kernel_rfl) (by rfl) (by rfl) (by rfl) (by rfl) ?_
    (refine go ?_; try exact tt)
    refine Yq (ZB s) [some 1,some 2,some 3,some 4,some 5] rfl rfl (go ?_)
    refine Zu hl [some 2,some 3,some 4,some 5] [] (go ?_)
    refine Zn (ZbN c.h) (go ?_)
    refine Zn (Zl2 w (Zdi c.h) hw) ?_
    rw [hs]
    (refine go ?_; try exact tt)
    refine Zh (ZjA w hw) ?_
    rw [decide_eq_false d]
    (refine go ?_; try exact tt)
    exact .mk [(6,768)] (go tt)
def COp.swap (c : COp) (ok : Bool) : COp:=if ok = true then { c with ph:=2,done:=true } else { c with ph:=0 }
def COp.new (c : COp) : Int:=4 * (c.seen / 4) + 3
theorem Zr5 (c : COp) (s : Sto) (i : Nat) (hi : i < s.m.words.length) (hf : s.Fits) (hw : 0 ≤ c.seen ∧ c.seen ≤ 4398046511104) :
 LSpec Tryz.prog 94 [.p 0 10 0 0,V.int i] (ZhA c s 3) 6 (.tup []) (ZhA (c.swap (decide (s.m.word i = c.seen))) { s with m:=(s.m.cas c.th i c.seen c.new).1 } 6) 7:=by
 have hl:=Zuj s.m c.th i c.seen c.new hi hf.mem
 generalize (s.m.cas c.th i c.seen c.new).1 = m' at *
 generalize decide (s.m.word i = c.seen) = ok at *
 unfold COp.swap
 cases ok with
 | true=>
  rw [if_pos rfl]
  refine lspec tab_ok mix Tryz.func94 (by kernel_rfl) (by rfl) (by rfl) (by rfl) (by rfl) ?_
  (refine go ?_; try exact tt)
  refine Yq (ZB s) [some 1,some 2,some 3,some 4,some 5] rfl rfl (go ?_)
  refine Zn (ZeW c.seen hw) (go ?_)
  refine Zu hl [some 2,some 3,some 4,some 5] [] (go ?_)
  exact .mk [(6,1536)] (go tt)
 | false=>
  rw [if_neg (by simp)]
  refine lspec tab_ok mix Tryz.func94 (by kernel_rfl) (by rfl) (by rfl) (by rfl) (by rfl) ?_
  (refine go ?_; try exact tt)
  refine Yq (ZB s) [some 1,some 2,some 3,some 4,some 5] rfl rfl (go ?_)
  refine Zn (ZeW c.seen hw) (go ?_)
  refine Zu hl [some 2,some 3,some 4,some 5] [] (go ?_)
  exact .mk [(6,1536)] (go tt)
def COp.cl (c : COp) : COp:={ c with blk:=false }
theorem Zm6 (c : COp) (s : Sto) (k : Nat) (hk : ZM c.h = k) (hks : k < s.slots.length) (hkw : k + 1 < s.m.words.length) (hf : s.Fits) (hw : 0 ≤ s.m.word (k + 1) ∧ s.m.word (k + 1) ≤ 2305843009213693952) (hp : c.ph ≠ 1) :
 LSpec Tryz.prog 39 [.p 0 10 0 0] (ZhA c s 3) 6 (V.bool (decide ((c.cl.load (s.m.word (k + 1))).ph = 2))) (ZhA (c.cl.load (s.m.word (k + 1))) { s with m:=s.m.load c.th (k + 1) } 6) 7:=by
 have hi:=ZiG c.cl s
 rw [show ZM c.cl.h = k from hk,decide_eq_true (show 0 ≤ (k : Int) ∧ (k : Int) < s.slots.length by omega)] at hi
 have hl:=Ztc c.cl s (k + 1) hkw hf hw
 rw [show c.cl.th = c.th from rfl] at hl
 generalize c.cl.load (s.m.word (k + 1)) = c' at *
 generalize ({ s with m:=s.m.load c.th (k + 1) } : Sto) = s' at *
 refine lspec tab_ok mix Tryz.func39 (by kernel_rfl) (by rfl) (by rfl) (by rfl) (by rfl) ?_
 (refine go ?_; try exact tt)
 refine Za hi [some 0,some 1,some 2,some 3,some 4,some 5] [] rfl (go ?_)
 rw [decide_eq_false (show ¬ c.cl.ph = 1 from hp)]
 (refine go ?_; try exact tt)
 rw [show (1 + (k : Int)) = ((k + 1 : Nat) : Int) by omega]
 refine Za hl [some 0,some 1,some 2,some 3,some 4,some 5] [] rfl (go ?_)
 exact .mk [(6,1536)] (go tt)
theorem ZmN (c : COp) (s : Sto) (k : Nat) (hk : ZM c.h = k) (hks : k < s.slots.length) (hkw : k + 1 < s.m.words.length) (hf : s.Fits) (hw : 0 ≤ c.seen ∧ c.seen ≤ 4398046511104) (hp : c.ph = 1) :
 LSpec Tryz.prog 39 [.p 0 10 0 0] (ZhA c s 3) 6 (V.bool (decide ((c.cl.swap (decide (s.m.word (k + 1) = c.seen))).ph = 2))) (ZhA (c.cl.swap (decide (s.m.word (k + 1) = c.seen))) { s with m:=(s.m.cas c.th (k + 1) c.seen c.new).1 } 6) 7:=by
 have hi:=ZiG c.cl s
 rw [show ZM c.cl.h = k from hk,decide_eq_true (show 0 ≤ (k : Int) ∧ (k : Int) < s.slots.length by omega)] at hi
 have hl:=Zr5 c.cl s (k + 1) hkw hf hw
 rw [show c.cl.th = c.th from rfl,show c.cl.seen = c.seen from rfl,show c.cl.new = c.new from rfl] at hl
 generalize c.cl.swap (decide (s.m.word (k + 1) = c.seen)) = c' at *
 generalize ({ s with m:=(s.m.cas c.th (k + 1) c.seen c.new).1 } : Sto) = s' at *
 refine lspec tab_ok mix Tryz.func39 (by kernel_rfl) (by rfl) (by rfl) (by rfl) (by rfl) ?_
 (refine go ?_; try exact tt)
 refine Za hi [some 0,some 1,some 2,some 3,some 4,some 5] [] rfl (go ?_)
 rw [decide_eq_true (show c.cl.ph = 1 from hp)]
 (refine go ?_; try exact tt)
 rw [show (1 + (k : Int)) = ((k + 1 : Nat) : Int) by omega]
 refine Za hl [some 0,some 1,some 2,some 3,some 4,some 5] [] rfl (go ?_)
 exact .mk [(6,1536)] (go tt)
end Go.Proofs.YtdjnjchpgccbiaaGreat.Abs
