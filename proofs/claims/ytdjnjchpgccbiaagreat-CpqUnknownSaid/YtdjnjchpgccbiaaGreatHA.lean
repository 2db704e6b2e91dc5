/- Handles and words: what their packing reckons, in the program and in the reference. -/
import Derived.Test.YtdjnjchpgccbiaaGreatK2
import Derived.Test.YtdjnjchpgccbiaaGreatC16
import Derived.IntWalk
import Derived.Test.YtdjnjchpgccbiaaGreatF30
import Derived.ProofKit
import Derived.OpenShut
import Derived.Lib.Hide
namespace Go.Proofs.YtdjnjchpgccbiaaGreat.Abs
open Go.Proofs
set_option maxRecDepth 10000
set_option linter.unusedSimpArgs false
set_option linter.unusedVariables false
theorem ZpQ (k : Nat) (g s : Int) (hg0 : 0 ≤ g) (hs0 : 0 ≤ s) (hs : s < 2 ^ k) (hk : g * 2 ^ k < 2 ^ 60) (hs2 : s < 2 ^ 60) :
 bits BinOp.or IntKind.i64 (g * 2 ^ k) s = g * 2 ^ k + s:=by
 obtain ⟨g,rfl⟩:=Int.eq_ofNat_of_zero_le hg0
 obtain ⟨s,rfl⟩:=Int.eq_ofNat_of_zero_le hs0
 have e : ((g : Int) * 2 ^ k) = ((g * 2 ^ k : Nat) : Int):=by simp
 rw [e] at hk ⊢
 have hs' : s < 2 ^ k:=by exact_mod_cast hs
 have hk' : g * 2 ^ k < 2 ^ 60:=by exact_mod_cast hk
 have hs3 : s < 2 ^ 60:=by exact_mod_cast hs2
 have ho : (g * 2 ^ k) ||| s = g * 2 ^ k + s:=by
  rw [Nat.mul_comm,Nat.two_pow_add_eq_or_of_lt hs']
 have hb : (BitVec.ofInt 64 ((g * 2 ^ k : Nat) : Int) ||| BitVec.ofInt 64 (s : Int)).toNat = g * 2 ^ k + s:=by
  rw [BitVec.toNat_or,BitVec.ofInt_natCast,BitVec.ofInt_natCast,BitVec.toNat_ofNat,BitVec.toNat_ofNat,Nat.mod_eq_of_lt (by omega),Nat.mod_eq_of_lt (by omega),ho]
 show IntKind.i64.wrap ((BitVec.ofInt 64 ((g * 2 ^ k : Nat) : Int) ||| BitVec.ofInt 64 (s : Int)).toNat : Int) = _
 rw [hb,IntWalk.i64_in _ (by omega)]
 simp
theorem Zk1 (k : Nat) (hk : k < 62) (p : Int) (hp0 : 0 ≤ p) (hp : p < 2 ^ 62) : bits BinOp.and IntKind.i64 p (2 ^ k - 1) = p % 2 ^ k:=by
 obtain ⟨p,rfl⟩:=Int.eq_ofNat_of_zero_le hp0
 have h1 : 1 ≤ 2 ^ k:=Nat.one_le_two_pow
 have h2 : 2 ^ k < 2 ^ 62:=Nat.pow_lt_pow_right (by omega) hk
 have e : ((2 : Int) ^ k - 1) = ((2 ^ k - 1 : Nat) : Int):=by rw [Int.natCast_sub h1];simp
 rw [e]
 have hp' : p < 2 ^ 62:=by exact_mod_cast hp
 have hlt : p % 2 ^ k < 2 ^ 62:=Nat.lt_of_le_of_lt (Nat.mod_le _ _) hp'
 have hb : (BitVec.ofInt 64 (p : Int) &&& BitVec.ofInt 64 ((2 ^ k - 1 : Nat) : Int)).toNat = p % 2 ^ k:=by
  rw [BitVec.toNat_and,BitVec.ofInt_natCast,BitVec.ofInt_natCast,BitVec.toNat_ofNat,BitVec.toNat_ofNat,Nat.mod_eq_of_lt (by omega),Nat.mod_eq_of_lt (by omega),Nat.and_two_pow_sub_one_eq_mod]
 show IntKind.i64.wrap ((BitVec.ofInt 64 (p : Int) &&& BitVec.ofInt 64 ((2 ^ k - 1 : Nat) : Int)).toNat : Int) = _
 rw [hb,IntWalk.i64_in _ (by omega)]
 simp
theorem Zqb (g s : Int) (h : (0 ≤ g ∧ g ≤ 2199023255552) ∧ 0 ≤ s ∧ s < 4) : bits BinOp.or IntKind.i64 (g * 4) s = 4 * g + s:=by
 have:=ZpQ 2 g s h.1.1 h.2.1 (by omega) (by omega) (by omega)
 simp only [show (2 : Int) ^ 2 = 4 from rfl] at this
 rw [this];omega
theorem ZtQ (g s : Int) (h : (0 ≤ g ∧ g ≤ 2199023255552) ∧ 0 ≤ s ∧ s < 64) : bits BinOp.or IntKind.i64 (g * 64) s = 64 * g + s:=by
 have:=ZpQ 6 g s h.1.1 h.2.1 (by omega) (by omega) (by omega)
 simp only [show (2 : Int) ^ 6 = 64 from rfl] at this
 rw [this];omega
theorem ZtS : (2 : Int) ^ min (Int.toNat 2) IntKind.i64.bits = 4:=rfl
theorem ZtN : (2 : Int) ^ min (Int.toNat 6) IntKind.i64.bits = 64:=rfl
theorem Zmg (g s : Int) (h : (0 ≤ g ∧ g ≤ 2199023255552) ∧ 0 ≤ s ∧ s < 4) : PSpec Tryz.prog 159 [V.int g,V.int s] (V.int (4 * g + s)):=by
 refine pspec tab_ok mix Tryz.func159 (by kernel_rfl) rfl rfl ?_
 (refine go ?_; try exact tt)
 rw [ZtS]
 refine wrB (by omega) (go ?_)
 exact .same (by rw [← Zqb g s h])
theorem Ztl (s g : Int) (h : (0 ≤ g ∧ g ≤ 2199023255552) ∧ 0 ≤ s ∧ s < 64) : PSpec Tryz.prog 161 [V.int s,V.int g] (V.int (64 * g + s)):=by
 refine pspec tab_ok mix Tryz.func161 (by kernel_rfl) rfl rfl ?_
 (refine go ?_; try exact tt)
 rw [ZtN]
 refine wrB (by omega) (go ?_)
 exact .same (by rw [← ZtQ g s h])
theorem Zuq (p : Int) : p.fdiv (2 ^ min (Int.toNat 2) IntKind.i64.bits) = p / 4:=by rw [ZtS];exact Int.fdiv_eq_ediv_of_nonneg _ (by omega)
theorem ZsV (p : Int) : p.fdiv (2 ^ min (Int.toNat 6) IntKind.i64.bits) = p / 64:=by rw [ZtN];exact Int.fdiv_eq_ediv_of_nonneg _ (by omega)
theorem ZsK (p : Int) : PSpec Tryz.prog 152 [V.int p,V.int 2] (V.int (p / 4)):=by
 refine pspec tab_ok mix Tryz.func152 (by kernel_rfl) rfl rfl ?_
 (refine go ?_; try exact tt)
 exact .same (by rw [← Zuq])
theorem Zsp (p : Int) : PSpec Tryz.prog 152 [V.int p,V.int 6] (V.int (p / 64)):=by
 refine pspec tab_ok mix Tryz.func152 (by kernel_rfl) rfl rfl ?_
 (refine go ?_; try exact tt)
 exact .same (by rw [← ZsV])
theorem Zn8 (p : Int) (h : 0 ≤ p ∧ p ≤ 2305843009213693952) : bits BinOp.and IntKind.i64 p 3 = p % 4:=by
 have:=Zk1 2 (by omega) p h.1 (by omega)
 simpa using this
theorem Zr2 (p : Int) (h : 0 ≤ p ∧ p ≤ 2305843009213693952) : bits BinOp.and IntKind.i64 p 63 = p % 64:=by
 have:=Zk1 6 (by omega) p h.1 (by omega)
 simpa using this
theorem Zuf (p : Int) (h : 0 ≤ p ∧ p ≤ 2305843009213693952) : PSpec Tryz.prog 153 [V.int p,V.int 2] (V.int (p % 4)):=by
 refine pspec tab_ok mix Tryz.func153 (by kernel_rfl) rfl rfl ?_
 (refine go ?_; try exact tt)
 rw [ZtS]
 refine wrB (by omega) (go ?_)
 exact .same (by rw [← Zn8 p h];rfl)
theorem Zt0 (p : Int) (h : 0 ≤ p ∧ p ≤ 2305843009213693952) : PSpec Tryz.prog 153 [V.int p,V.int 6] (V.int (p % 64)):=by
 refine pspec tab_ok mix Tryz.func153 (by kernel_rfl) rfl rfl ?_
 (refine go ?_; try exact tt)
 rw [ZtN]
 refine wrB (by omega) (go ?_)
 exact .same (by rw [← Zr2 p h];rfl)
theorem ZrX (p : Int) : PSpec Tryz.prog 80 [V.int p] (V.int (p / 4)):=by
 refine pspec tab_ok mix Tryz.func80 (by kernel_rfl) rfl rfl ?_
 (refine go ?_; try exact tt)
 refine Zh (ZsK p) (go ?_)
 exact .same rfl
theorem Zjc (p : Int) (h : 0 ≤ p ∧ p ≤ 2305843009213693952) : PSpec Tryz.prog 81 [V.int p] (V.int (p % 4)):=by
 refine pspec tab_ok mix Tryz.func81 (by kernel_rfl) rfl rfl ?_
 (refine go ?_; try exact tt)
 refine Zh (Zuf p h) (go ?_)
 exact .same rfl
def hOk (h : Int) : Prop:=0 ≤ h ∧ h ≤ 70368744177727
instance (h : Int) : Decidable (hOk h):=by unfold hOk;infer_instance
def ZM (h : Int) : Int:=if hOk h then h % 64 else -1
def Zdi (h : Int) : Int:=if hOk h then h / 64 else -1
theorem ZkZ (h : Int) : PSpec Tryz.prog 129 [V.int h] (V.bool (decide (hOk h))):=by
 refine pspec tab_ok mix Tryz.func129 (by kernel_rfl) rfl rfl ?_
 (refine go ?_; try exact tt)
 refine Zf (fun g=>?_) (fun g=>?_) <;> (refine go ?_; try exact tt)
 · exact .same (congrArg (fun z=>V.c (.bool z)) (decide_eq_decide.2 ⟨fun q=>⟨g,q⟩,fun q=>q.2⟩))
 · exact .same (congrArg (fun z=>V.c (.bool z)) (decide_eq_false fun q=>g q.1).symm)
theorem ZnL (h : Int) : PSpec Tryz.prog 226 [V.int h,.fn (.func 153) [V.int h] []] (V.int (ZM h)):=by
 refine pspec tab_ok mix Tryz.func226 (by kernel_rfl) rfl rfl ?_
 (refine go ?_; try exact tt)
 refine Zh (ZkZ h) ?_
 unfold ZM
 by_cases g : hOk h
 · rw [if_pos g,decide_eq_true g]
   (refine go ?_; try exact tt)
   refine Zh (Zt0 h (by have:=g.1;have:=g.2;omega)) (go ?_)
   exact .same rfl
 · rw [if_neg g,decide_eq_false g]
   (refine go ?_; try exact tt)
   exact .same rfl
theorem ZmM (h : Int) : PSpec Tryz.prog 226 [V.int h,.fn (.func 152) [V.int h] []] (V.int (Zdi h)):=by
 refine pspec tab_ok mix Tryz.func226 (by kernel_rfl) rfl rfl ?_
 (refine go ?_; try exact tt)
 refine Zh (ZkZ h) ?_
 unfold Zdi
 by_cases g : hOk h
 · rw [if_pos g,decide_eq_true g]
   (refine go ?_; try exact tt)
   refine Zh (Zsp h) (go ?_)
   exact .same rfl
 · rw [if_neg g,decide_eq_false g]
   (refine go ?_; try exact tt)
   exact .same rfl
theorem Zs4 (h : Int) : PSpec Tryz.prog 170 [V.int h] (V.int (ZM h)):=by
 refine pspec tab_ok mix Tryz.func170 (by kernel_rfl) rfl rfl ?_
 (refine go ?_; try exact tt)
 refine Zh (ZnL h) (go ?_)
 exact .same rfl
theorem ZbN (h : Int) : PSpec Tryz.prog 174 [V.int h] (V.int (Zdi h)):=by
 refine pspec tab_ok mix Tryz.func174 (by kernel_rfl) rfl rfl ?_
 (refine go ?_; try exact tt)
 refine Zh (ZmM h) (go ?_)
 exact .same rfl
theorem Zby (g s : Int) (h : (0 ≤ g ∧ g ≤ 2199023255552) ∧ 0 ≤ s ∧ s < 4) : PSpec Tryz.prog 111 [V.int g,V.int s] (V.int (4 * g + s)):=by
 refine pspec tab_ok mix Tryz.func111 (by kernel_rfl) rfl rfl ?_
 (refine go ?_; try exact tt)
 exact .same rfl
theorem Zsk (s g : Int) (h : (0 ≤ g ∧ g ≤ 2199023255552) ∧ 0 ≤ s ∧ s < 64) : PSpec Tryz.prog 75 [V.int s,V.int g] (V.int (64 * g + s)):=by
 refine pspec tab_ok mix Tryz.func75 (by kernel_rfl) rfl rfl ?_
 (refine go ?_; try exact tt)
 exact .same rfl
theorem ZeG (p : Int) (h : 0 ≤ p ∧ p ≤ 9223372036854775807) : PSpec Tryz.prog 112 [V.int p] (V.int (p / 4)):=by
 refine pspec tab_ok mix Tryz.func112 (by kernel_rfl) rfl rfl ?_
 (refine go ?_; try exact tt)
 rw [Int.tdiv_eq_ediv_of_nonneg h.1]
 refine wrB (by omega) (go ?_)
 exact .same rfl
theorem ZnK (h : Int) : PSpec Tryz.prog 168 [V.int h] (V.bool (decide (hOk h))):=by
 refine pspec tab_ok mix Tryz.func168 (by kernel_rfl) rfl rfl ?_
 (refine go ?_; try exact tt)
 refine Zf (fun g=>?_) (fun g=>?_) <;> (refine go ?_; try exact tt)
 · exact .same (congrArg (fun z=>V.c (.bool z)) (decide_eq_decide.2 ⟨fun q=>⟨g,q⟩,fun q=>q.2⟩))
 · exact .same (congrArg (fun z=>V.c (.bool z)) (decide_eq_false fun q=>g q.1).symm)
theorem Zjv (h : Int) : PSpec Tryz.prog 109 [V.int h] (V.int (ZM h)):=by
 refine pspec tab_ok mix Tryz.func109 (by kernel_rfl) rfl rfl ?_
 (refine go ?_; try exact tt)
 refine Zh (ZnK h) ?_
 unfold ZM
 by_cases g : hOk h
 · rw [if_pos g,decide_eq_true g]
   (refine go ?_; try exact tt)
   exact .same (by rw [Int.tmod_eq_emod_of_nonneg g.1])
 · rw [if_neg g,decide_eq_false g]
   (refine go ?_; try exact tt)
   exact .same rfl
structure Acc where
 th : Int
 kind : Int
 idx : Int
 old : Int
 new : Int
 ok : Bool
deriving DecidableEq
def Acc.row (a : Acc) : List D:=[.c (.int .i64 a.th),.c (.int .i64 a.kind),.c (.int .i64 a.idx),.c (.int .i64 a.old),.c (.int .i64 a.new),.c (.bool a.ok)]
def ZaK (p : Bool × Int) : List D:=[.c (.bool p.1),.c (.int .i64 p.2)]
structure Mem where
 words : List Int
 mtx : List (Bool × Int)
 log : List Acc
 viol : Int
def ZrF (m : Mem) (l w x : Nat) : B:=.rows 4 [[.ac l 6 m.log.length,V.int m.viol,.ac w 1 m.words.length,.ac x 2 m.mtx.length]]
def ZoF (m : Mem) : B:=.dat 6 (m.log.map Acc.row)
def Zc1 (m : Mem) : B:=.dat 1 (m.words.map QF)
def Zs2 (m : Mem) : B:=.dat 2 (m.mtx.map ZaK)
def Zaj (m : Mem) (l : Nat) : List (Nat × B):=[(0,ZrF m l 2 3),(l,ZoF m),(2,Zc1 m),(3,Zs2 m)]
def Mem.word (m : Mem) (i : Nat) : Int:=(m.words[i]?).getD 0
def Mem.held (m : Mem) (i : Nat) : Bool × Int:=(m.mtx[i]?).getD (false,0)
def Mem.addLog (m : Mem) (a : Acc) : Mem:={ m with log:=m.log ++ [a] }
def Mem.put (m : Mem) (th kind : Int) (i : Nat) (v : Int) (ok : Bool) : Mem:={ m with words:=m.words.set i v,log:=m.log ++ [⟨th,kind,i,m.word i,v,ok⟩] }
def Mem.load (m : Mem) (th : Int) (i : Nat) : Mem:=m.put th 1 i (m.word i) true
def Mem.store (m : Mem) (th : Int) (i : Nat) (v : Int) : Mem:=m.put th 4 i v true
def Mem.cas (m : Mem) (th : Int) (i : Nat) (o n : Int) : Mem × Bool:=if m.word i = o then (m.put th 3 i n true,true) else (m.put th 3 i (m.word i) false,false)
def Mem.lock (m : Mem) (th : Int) (i : Nat) : Mem × Bool:=
 if (m.held i).1 = true then ({ m with log:=m.log ++ [⟨th,5,i,1,1,false⟩] },false)
 else ({ m with mtx:=m.mtx.set i (true,th),log:=m.log ++ [⟨th,5,i,0,1,true⟩] },true)
def ZoP (b : Bool) : Int:=if b = true then 1 else 0
def Mem.unlock (m : Mem) (th : Int) (i : Nat) : Mem × Bool:=
 if m.held i = (true,th) then ({ m with mtx:=m.mtx.set i (false,0),log:=m.log ++ [⟨th,6,i,1,0,true⟩] },true)
 else ({ m with log:=m.log ++ [⟨th,6,i,ZoP (m.held i).1,ZoP (m.held i).1,false⟩],viol:=m.viol + 1 },false)
def Mem.touch (m : Mem) (th : Int) (i : Nat) : Mem:=if m.held i = (true,th) then m else { m with viol:=m.viol + 1 }
structure Mem.Fits (m : Mem) : Prop where
 log : m.log.length < 1000000
 viol : 0 ≤ m.viol ∧ m.viol < 1000000000
 words : m.words.length < 1000000
 mtx : m.mtx.length < 1000000
theorem Mem.word_get {m : Mem} {i : Nat} (h : i < m.words.length) : m.words[i]? = some (m.word i):=by
 unfold Mem.word
 rw [List.getElem?_eq_getElem h];rfl
theorem Mem.held_get {m : Mem} {i : Nat} (h : i < m.mtx.length) : m.mtx[i]? = some (m.held i):=by
 unfold Mem.held
 rw [List.getElem?_eq_getElem h];rfl
theorem atW (m : Mem) (i : Nat) (h : i < m.words.length) (hf : m.Fits) : LSpec Tryz.prog 151 [.p 0 4 0 2,V.int i] (Zaj m 1) 4 (.p 2 1 i 0) (Zaj m 1) 4:=by
 have hw:=hf.words
 refine lspec tab_ok mix Tryz.func151 (by kernel_rfl) (by rfl) (by rfl) (by rfl) (by rfl) ?_
 (refine go ?_; try exact tt)
 rw [show decide ((i : Int) < 0) = false from decide_eq_false (by omega)]
 (refine go ?_; try exact tt)
 rw [show decide ((m.words.length : Int) ≤ i) = false from decide_eq_false (by omega)]
 (refine go ?_; try exact tt)
 refine atB h (go ?_)
 exact .mk [] (go tt)
theorem atX (m : Mem) (i : Nat) (h : i < m.mtx.length) (hw : m.mtx.length < 1000000) : LSpec Tryz.prog 122 [.p 0 4 0 3,V.int i] (Zaj m 1) 4 (.p 3 2 i 0) (Zaj m 1) 4:=by
 refine lspec tab_ok mix Tryz.func122 (by kernel_rfl) (by rfl) (by rfl) (by rfl) (by rfl) ?_
 (refine go ?_; try exact tt)
 rw [show decide ((i : Int) < 0) = false from decide_eq_false (by omega)]
 (refine go ?_; try exact tt)
 rw [show decide ((m.mtx.length : Int) ≤ i) = false from decide_eq_false (by omega)]
 (refine go ?_; try exact tt)
 refine atB h (go ?_)
 exact .mk [] (go tt)
theorem ZbU (m : Mem) (hl : m.log.length < 1000000) (a : Acc) : LSpec Tryz.prog 149 [.p 0 4 0 0,V.int a.th,V.int a.kind,V.int a.idx,V.int a.old,V.int a.new,V.bool a.ok] (Zaj m 1) 4 (.tup []) (Zaj (m.addLog a) 4) 5:=by
 refine lspec tab_ok mix Tryz.func149 (by kernel_rfl) (by rfl) (by rfl) (by rfl) (by rfl) ?_
 (refine go ?_; try exact tt)
 refine .mk [(4,896)] (go ?_)
 refine cb (by simp [Mem.addLog]) (go ?_)
 exact cb (by simp [Mem.addLog,Acc.row]) (go tt)
theorem ZrP (b : Bool) : PSpec Tryz.prog 150 [V.bool b] (V.int (ZoP b)):=by
 refine pspec tab_ok mix Tryz.func150 (by kernel_rfl) rfl rfl ?_
 cases b
 · (refine go ?_; try exact tt)
   exact .same rfl
 · (refine go ?_; try exact tt)
   exact .same rfl
theorem ZhD (m : Mem) (i : Nat) (h : i < m.words.length) (hf : m.Fits) : LSpec Tryz.prog 79 [.p 0 4 0 0,V.int i] (Zaj m 1) 4 (V.int (m.word i)) (Zaj m 1) 4:=by
 refine lspec tab_ok mix Tryz.func79 (by kernel_rfl) (by rfl) (by rfl) (by rfl) (by rfl) ?_
 (refine go ?_; try exact tt)
 refine Za (atW m i h hf) [some 0,some 1,some 2,some 3] [] rfl (go ?_)
 refine Yy (Mem.word_get h) (go ?_)
 exact .mk [] (go tt)
theorem Zmw (m : Mem) (th : Int) (i : Nat) (h : i < m.mtx.length) (hf : m.Fits) : LSpec Tryz.prog 86 [.p 0 4 0 0,V.int th,V.int i] (Zaj m 1) 4 (V.bool (m.lock th i).2) (Zaj (m.lock th i).1 4) 5:=by
 unfold Mem.lock
 have hg:=Mem.held_get h
 cases hh : (m.held i).1 with
 | true=>
  rw [if_pos rfl]
  refine lspec tab_ok mix Tryz.func86 (by kernel_rfl) (by rfl) (by rfl) (by rfl) (by rfl) ?_
  (refine go ?_; try exact tt)
  refine Za (atX m i h hf.mtx) [some 0,some 1,some 2,some 3] [] rfl (go ?_)
  refine Yy hg ?_
  rw [show ZaK (m.held i) = [.c (.bool true),.c (.int .i64 (m.held i).2)] by unfold ZaK;rw [hh]]
  (refine go ?_; try exact tt)
  refine Zn (ZrP true) (go ?_)
  refine Zu (ZbU m hf.log ⟨th,5,i,1,1,false⟩) [some 0,some 1,some 2,some 3] [] (go ?_)
  exact .mk [(4,1664)] (go tt)
 | false=>
  rw [if_neg (by simp)]
  refine lspec tab_ok mix Tryz.func86 (by kernel_rfl) (by rfl) (by rfl) (by rfl) (by rfl) ?_
  (refine go ?_; try exact tt)
  refine Za (atX m i h hf.mtx) [some 0,some 1,some 2,some 3] [] rfl (go ?_)
  refine Yy hg ?_
  rw [show ZaK (m.held i) = [.c (.bool false),.c (.int .i64 (m.held i).2)] by unfold ZaK;rw [hh]]
  (refine go ?_; try exact tt)
  refine Yy hg ?_
  rw [show ZaK (m.held i) = [.c (.bool false),.c (.int .i64 (m.held i).2)] by unfold ZaK;rw [hh]]
  (refine go ?_; try exact tt)
  refine Zn (ZrP false) (go ?_)
  refine Zu (ZbU { m with mtx:=m.mtx.set i (true,th) } hf.log ⟨th,5,i,0,1,true⟩) [some 0,some 1,some 2,some 3] [] (go ?_)
  refine cb (by simp [ZaK]) (go ?_)
  exact .mk [(4,1984)] (go tt)
theorem Zd1 (m : Mem) (th : Int) (i : Nat) (h : i < m.mtx.length) (hf : m.Fits) : LSpec Tryz.prog 70 [.p 0 4 0 0,V.int th,V.int i] (Zaj m 1) 4 (V.bool (m.unlock th i).2) (Zaj (m.unlock th i).1 4) 5:=by
 unfold Mem.unlock
 have hg:=Mem.held_get h
 have hv:=hf.viol
 have hr : ZaK (m.held i) = [.c (.bool (m.held i).1),.c (.int .i64 (m.held i).2)]:=rfl
 by_cases hh : m.held i = (true,th)
 · rw [if_pos hh]
   rw [hh] at hg
   refine lspec tab_ok mix Tryz.func70 (by kernel_rfl) (by rfl) (by rfl) (by rfl) (by rfl) ?_
   (refine go ?_; try exact tt)
   refine Za (atX m i h hf.mtx) [some 0,some 1,some 2,some 3] [] rfl (go ?_)
   refine Yy hg (go ?_)
   refine Yy hg (go ?_)
   refine eqB [false,true] (by kernel_rfl) rfl rfl rfl (go ?_)
   rw [show ((true,th).1 == true && (decide ((true,th).2 = th) && true)) = true by simp]
   (refine go ?_; try exact tt)
   refine Yy hg (go ?_)
   refine Zn (ZrP true) (go ?_)
   refine Y6 [.c (.bool false),.c (.int .i64 0)] (by simp [h]) (go ?_)
   refine Zn (ZrP false) (go ?_)
   refine Zu (ZbU { m with mtx:=m.mtx.set i (false,0) } hf.log ⟨th,6,i,1,0,true⟩) [some 0,some 1,some 2,some 3] [] (go ?_)
   refine cb (by simp [ZaK]) (go ?_)
   refine .mk [(4,2560)] (go ?_);try exact tt
 · have hx : ((m.held i).1 == true && (decide ((m.held i).2 = th) && true)) = false:=by
    cases hb : (m.held i).1 with
    | false=>rfl
    | true=>
     have : (m.held i).2 ≠ th:=fun e=>hh (Prod.ext hb e)
     simp [this]
   rw [if_neg hh]
   refine lspec tab_ok mix Tryz.func70 (by kernel_rfl) (by rfl) (by rfl) (by rfl) (by rfl) ?_
   (refine go ?_; try exact tt)
   refine Za (atX m i h hf.mtx) [some 0,some 1,some 2,some 3] [] rfl (go ?_)
   refine Yy hg (go ?_)
   refine Yy hg (go ?_)
   refine eqB [false,true] (by kernel_rfl) rfl rfl rfl (go ?_)
   rw [hx]
   (refine go ?_; try exact tt)
   refine Zn (ZrP (m.held i).1) (go ?_)
   refine Yy hg (go ?_)
   refine Zn (ZrP (m.held i).1) (go ?_)
   refine Zu (ZbU { m with viol:=m.viol + 1 } hf.log ⟨th,6,i,ZoP (m.held i).1,ZoP (m.held i).1,false⟩) [some 0,some 1,some 2,some 3] [] (go ?_)
   exact .mk [(4,2944)] (go tt)
theorem Ztb (m : Mem) (th : Int) (i : Nat) (h : i < m.mtx.length) (hx : m.mtx.length < 1000000) (hv : 0 ≤ m.viol ∧ m.viol < 2000000000) : LSpec Tryz.prog 224 [.p 0 4 0 0,V.int th,V.int i] (Zaj m 1) 4 (V.bool (decide (m.held i = (true,th)))) (Zaj (m.touch th i) 1) 4:=by
 unfold Mem.touch
 have hg:=Mem.held_get h
 by_cases hh : m.held i = (true,th)
 · rw [if_pos hh,decide_eq_true hh]
   rw [hh] at hg
   refine lspec tab_ok mix Tryz.func224 (by kernel_rfl) (by rfl) (by rfl) (by rfl) (by rfl) ?_
   (refine go ?_; try exact tt)
   refine Za (atX m i h hx) [some 0,some 1,some 2,some 3] [] rfl (go ?_)
   refine Yy hg (go ?_)
   refine eqB [false,true] (by kernel_rfl) rfl rfl rfl (go ?_)
   rw [show ((true,th).1 == true && (decide ((true,th).2 = th) && true)) = true by simp]
   (refine go ?_; try exact tt)
   refine .mk [] (go ?_);try exact tt
 · have hx' : ((m.held i).1 == true && (decide ((m.held i).2 = th) && true)) = false:=by
    cases hb : (m.held i).1 with
    | false=>rfl
    | true=>
     have : (m.held i).2 ≠ th:=fun e=>hh (Prod.ext hb e)
     simp [this]
   rw [if_neg hh,decide_eq_false hh]
   refine lspec tab_ok mix Tryz.func224 (by kernel_rfl) (by rfl) (by rfl) (by rfl) (by rfl) ?_
   (refine go ?_; try exact tt)
   refine Za (atX m i h hx) [some 0,some 1,some 2,some 3] [] rfl (go ?_)
   refine Yy hg (go ?_)
   refine eqB [false,true] (by kernel_rfl) rfl rfl rfl (go ?_)
   rw [hx']
   (refine go ?_; try exact tt)
   exact .mk [] (go tt)
section
variable {P : Program} {tab : Tab}
theorem ZpB (ht : Zk P tab) {ty : TypeId} {l c : Operand} {t : List V} {h : List (Nat × B)} {b : Nat} {K : V → List (Nat × B) → Dyn → Prop} (n : Nat) (zr : List D) (ε : Ty) (hε : Zy tab ty = some ε) (hz : ZeroRow ε.zero zr) (hl : evS (tAt t) l = V.int n) (hc : evS (tAt t) c = V.int n)
 (hn : n < 2147483648) (hby : Nat.ble ε.bytes 4096 = true) (k : Zc2 h b (.dat ε.size (List.replicate n zr)) fun h=>K (.ac b ε.size n) h ⟨[],[],[b],false⟩) : DOpB P (.makeSlice ty l c) t h b K:=by
 obtain ⟨l',hk,e⟩:=ZX k
 refine ⟨_,.ac b ε.size n,[(b,some (.dat ε.size (List.replicate n zr)))],l',rfl,⟨by simp [Zw],by simp,fun h2 he M hf hb=>?_⟩,e,hk⟩
 exact Zcu (M:=M) ht (hf b (Nat.le_refl _) (by omega)) hε hl hc hn (Nat.le_of_ble_eq_true hby) hz ⟨rfl,rfl⟩
end
theorem ZrZ (v : Int) : PSpec Tryz.prog 223 [V.int v] (.tup [V.int v,V.bool true]):=by
 refine pspec tab_ok mix Tryz.func223 (by kernel_rfl) rfl rfl ?_
 (refine go ?_; try exact tt)
 exact .same rfl
theorem ZqS (v x : Int) : LSpec Tryz.prog 225 [V.int x,.p 0 1 0 0] [(0,.rows 1 [[V.int v]])] 1 (.tup [V.int v,V.bool true]) [(0,.rows 1 [[V.int v]])] 1:=by
 refine lspec tab_ok mix Tryz.func225 (by kernel_rfl) (by rfl) (by rfl) (by rfl) (by rfl) ?_
 (refine go ?_; try exact tt)
 exact .mk [] (go tt)
theorem Zua (o n x : Int) : LSpec Tryz.prog 205 [V.int x,.p 0 1 0 0,.p 1 1 0 0] [(0,.rows 1 [[V.int o]]),(1,.rows 1 [[V.int n]])] 2
 (.tup [V.int (if x = o then n else x),V.bool (decide (x = o))]) [(0,.rows 1 [[V.int o]]),(1,.rows 1 [[V.int n]])] 2:=by
 by_cases h : x = o
 · rw [if_pos h,decide_eq_true h]
   refine lspec tab_ok mix Tryz.func205 (by kernel_rfl) (by rfl) (by rfl) (by rfl) (by rfl) ?_
   (refine go ?_; try exact tt)
   rw [decide_eq_true h]
   (refine go ?_; try exact tt)
   refine .mk [] (go ?_);try exact tt
 · rw [if_neg h,decide_eq_false h]
   refine lspec tab_ok mix Tryz.func205 (by kernel_rfl) (by rfl) (by rfl) (by rfl) (by rfl) ?_
   (refine go ?_; try exact tt)
   rw [decide_eq_false h]
   (refine go ?_; try exact tt)
   exact .mk [] (go tt)
theorem ZoW (m : Mem) (th : Int) (i : Nat) (h : i < m.words.length) (hf : m.Fits) :
 LSpec Tryz.prog 204 [.p 0 4 0 0,V.int th,V.int 1,V.int i,.fn (.func 223) [] []] (Zaj m 1) 4 (.tup [V.int (m.word i),V.bool true]) (Zaj (m.load th i) 4) 5:=by
 have hg:=Mem.word_get h
 refine lspec tab_ok mix Tryz.func204 (by kernel_rfl) (by rfl) (by rfl) (by rfl) (by rfl) ?_
 (refine go ?_; try exact tt)
 refine Za (atW m i h hf) [some 0,some 1,some 2,some 3] [] rfl (go ?_)
 refine Yy hg (go ?_)
 refine Zh (ZrZ (m.word i)) (go ?_)
 refine Yy hg (go ?_)
 refine Za (ZbU { m with words:=m.words.set i (m.word i) } hf.log ⟨th,1,i,m.word i,m.word i,true⟩) [some 0,some 1,some 2,some 3] [] rfl (go ?_)
 refine cb (by simp [QF]) (go ?_)
 exact .mk [(4,2304)] (go tt)
theorem ZkY (m : Mem) (th : Int) (i : Nat) (v : Int) (h : i < m.words.length) (hf : m.Fits) :
 LSpec Tryz.prog 204 [.p 0 4 0 0,V.int th,V.int 4,V.int i,.fn (.func 225) [] [.p 4 1 0 0]] (Zaj m 1 ++ [(4,.rows 1 [[V.int v]])]) 5 (.tup [V.int v,V.bool true]) (Zaj (m.store th i v) 5) 6:=by
 have hg:=Mem.word_get h
 refine lspec tab_ok mix Tryz.func204 (by kernel_rfl) (by rfl) (by rfl) (by rfl) (by rfl) ?_
 (refine go ?_; try exact tt)
 refine Za (atW m i h hf) [some 0,some 1,some 2,some 3] [] rfl (go ?_)
 refine Yy hg (go ?_)
 refine Za (ZqS v (m.word i)) [some 4] [] rfl (go ?_)
 refine Yy hg (go ?_)
 refine Za (ZbU { m with words:=m.words.set i v } hf.log ⟨th,4,i,m.word i,v,true⟩) [some 0,some 1,some 2,some 3] [] rfl (go ?_)
 refine cb (by simp [QF]) (go ?_)
 exact .mk [(5,2304)] (go tt)
theorem Zqa (m : Mem) (th : Int) (i : Nat) (o n : Int) (h : i < m.words.length) (hf : m.Fits) :
 LSpec Tryz.prog 204 [.p 0 4 0 0,V.int th,V.int 3,V.int i,.fn (.func 205) [] [.p 4 1 0 0,.p 5 1 0 0]] (Zaj m 1 ++ [(4,.rows 1 [[V.int o]]),(5,.rows 1 [[V.int n]])]) 6
  (.tup [V.int (if m.word i = o then n else m.word i),V.bool (decide (m.word i = o))]) (Zaj (m.cas th i o n).1 6) 7:=by
 have hg:=Mem.word_get h
 have hc : (m.cas th i o n).1 = m.put th 3 i (if m.word i = o then n else m.word i) (decide (m.word i = o)):=by
  unfold Mem.cas
  split
  · next e=>rw [decide_eq_true e]
  · next e=>rw [decide_eq_false e]
 rw [hc]
 refine lspec tab_ok mix Tryz.func204 (by kernel_rfl) (by rfl) (by rfl) (by rfl) (by rfl) ?_
 (refine go ?_; try exact tt)
 refine Za (atW m i h hf) [some 0,some 1,some 2,some 3] [] rfl (go ?_)
 refine Yy hg (go ?_)
 refine Za (Zua o n (m.word i)) [some 4,some 5] [] rfl (go ?_)
 generalize (if m.word i = o then n else m.word i) = v
 refine Yy hg (go ?_)
 refine Za (ZbU { m with words:=m.words.set i v } hf.log ⟨th,3,i,m.word i,v,decide (m.word i = o)⟩) [some 0,some 1,some 2,some 3] [] rfl (go ?_)
 refine cb (by simp [QF]) (go ?_)
 exact .mk [(6,2304)] (go tt)
theorem ZpV (m : Mem) (th : Int) (i : Nat) (h : i < m.words.length) (hf : m.Fits) : LSpec Tryz.prog 162 [.p 0 4 0 0,V.int th,V.int i] (Zaj m 1) 4 (V.int (m.word i)) (Zaj (m.load th i) 4) 5:=by
 refine lspec tab_ok mix Tryz.func162 (by kernel_rfl) (by rfl) (by rfl) (by rfl) (by rfl) ?_
 (refine go ?_; try exact tt)
 refine Za (ZoW m th i h hf) [some 0,some 1,some 2,some 3] [] rfl (go ?_)
 exact .mk [(4,320)] (go tt)
theorem ZmU (m : Mem) (th : Int) (i : Nat) (v : Int) (h : i < m.words.length) (hf : m.Fits) : LSpec Tryz.prog 164 [.p 0 4 0 0,V.int th,V.int i,V.int v] (Zaj m 1) 4 (.tup []) (Zaj (m.store th i v) 4) 5:=by
 refine lspec tab_ok mix Tryz.func164 (by kernel_rfl) (by rfl) (by rfl) (by rfl) (by rfl) ?_
 (refine go ?_; try exact tt)
 refine Za (ZkY m th i v h hf) [some 0,some 1,some 2,some 3,some 64] [] rfl (go ?_)
 exact .mk [(4,384)] (go tt)
theorem Zuj (m : Mem) (th : Int) (i : Nat) (o n : Int) (h : i < m.words.length) (hf : m.Fits) : LSpec Tryz.prog 145 [.p 0 4 0 0,V.int th,V.int i,V.int o,V.int n] (Zaj m 1) 4 (V.bool (decide (m.word i = o))) (Zaj (m.cas th i o n).1 4) 5:=by
 refine lspec tab_ok mix Tryz.func145 (by kernel_rfl) (by rfl) (by rfl) (by rfl) (by rfl) ?_
 (refine go ?_; try exact tt)
 refine Za (Zqa m th i o n h hf) [some 0,some 1,some 2,some 3,some 64,some 128] [] rfl (go ?_)
 exact .mk [(4,512)] (go tt)
theorem ZsG (n : Int) (h : 0 ≤ n ∧ n ≤ 256) : PSpec Tryz.prog 188 [V.int n] (V.bool true):=by
 refine pspec tab_ok mix Tryz.func188 (by kernel_rfl) rfl rfl ?_
 (refine go ?_; try exact tt)
 rw [decide_eq_true h.1]
 (refine go ?_; try exact tt)
 exact .same (congrArg (fun z=>V.c (.bool z)) (decide_eq_true h.2))
def ZnE (w x : Nat) : Mem:=⟨List.replicate w 0,List.replicate x (false,0),[],0⟩
theorem Zqr (w x : Nat) (hw : w ≤ 256) (hx : x ≤ 256) : LSpec Tryz.prog 124 [V.int w,V.int x] [] 0 (.p 0 4 0 0) (Zaj (ZnE w x) 1) 4:=by
 refine lspec tab_ok mix Tryz.func124 (by kernel_rfl) (by rfl) (by rfl) (by rfl) (by rfl) ?_
 (refine go ?_; try exact tt)
 refine Zh (ZsG w (by omega)) (go ?_)
 refine Zh (ZsG x (by omega)) (go ?_)
 refine ZpB tab_ok w [.c (.int .i64 0)] _ rfl (.c _ rfl .nil) rfl rfl (by omega) rfl (go ?_)
 refine ZpB tab_ok x [.c (.bool false),.c (.int .i64 0)] _ rfl (.c _ rfl (.c _ rfl .nil)) rfl rfl (by omega) rfl (go ?_)
 refine .mk [(0,1280),(1,1281),(2,896),(3,1088)] (go ?_)
 refine cb (by simp [ZnE]) (go ?_)
 refine cb (by simp [ZnE]) (go ?_)
 refine cb (by show _ = List.map QF (List.replicate w 0);rw [List.map_replicate];rfl) (go ?_)
 exact cb (by show _ = List.map ZaK (List.replicate x (false,0));rw [List.map_replicate];rfl) (by (refine go ?_; try exact tt))
theorem ZoQ (l : List Acc) (hl : l.length < 1073741824) : LSpec Tryz.prog 71 [.ac 0 6 l.length] [(0,.dat 6 (l.map Acc.row))] 1 (.ac 1 6 l.length) [(0,.dat 6 (l.map Acc.row)),(1,.dat 6 (l.map Acc.row))] 2:=by
 refine lspec tab_ok mix Tryz.func71 (by kernel_rfl) (by rfl) (by rfl) (by rfl) (by rfl) ?_
 (refine go ?_; try exact tt)
 refine ZrO ?_ ?_
 · (refine go ?_; try exact tt)
   refine .mk [(1,384)] (go ?_);try exact tt
 · intro h
   have h : l = []:=by simpa using h
   subst h
   (refine go ?_; try exact tt)
   exact .mk [(1,385)] (go tt)
theorem ZtC (m : Mem) (hf : m.Fits) : LSpec Tryz.prog 16 [.p 0 4 0 0] (Zaj m 1) 4 (.ac 4 6 m.log.length) (Zaj m 1 ++ [(4,ZoF m)]) 5:=by
 have hl:=hf.log
 refine lspec tab_ok mix Tryz.func16 (by kernel_rfl) (by rfl) (by rfl) (by rfl) (by rfl) ?_
 (refine go ?_; try exact tt)
 refine Za (ZoQ m.log (by omega)) [some 1] [] rfl (go ?_)
 exact .mk [(4,448)] (go tt)
open Go.Proofs
set_option maxRecDepth 10000
set_option linter.unusedSimpArgs false
set_option linter.unusedVariables false
structure Slt where
 gen : Int
 state : Int
 time : Int
 seq : Int
deriving DecidableEq
def Slt.v (s : Slt) : V:=.agg [V.int s.gen,V.int s.state,V.int s.time,V.int s.seq]
def Slt.row (s : Slt) : List D:=[.c (.int .i64 s.gen),.c (.int .i64 s.state),.c (.int .i64 s.time),.c (.int .i64 s.seq)]
def ZoJ (l : List Slt) : V:=.lst 4 (l.map Slt.row) false
structure Sto where
 m : Mem
 slots : List Slt
 idle : List Int
 next : Int
 q : Lad
def ZrI (s : Sto) (a : Nat) : List V:=[.p a 4 0 0,ZoJ s.slots,ZkI s.idle,V.int s.next,V.int s.q.topStart,ZI s.q.top,Zb7 s.q.rungs,ZI s.q.bottom,V.int s.q.moves,V.int s.q.compares]
def ZE (s : Sto) (l : Nat) : List (Nat × B):=[(0,.rows 10 [ZrI s 1]),(1,ZrF s.m l 3 4),(l,ZoF s.m),(3,Zc1 s.m),(4,Zs2 s.m)]
structure Sto.Fits (s : Sto) : Prop where
 mem : s.m.Fits
 slots : s.slots.length < 1000000
 idle : s.idle.length < 1000000
 next : 0 ≤ s.next ∧ s.next < 1000000000
def Mem.touches (m : Mem) (th : Int) (l : List Nat) : Mem:=l.foldl (fun m i=>m.touch th i) m
theorem Zfk (m : Mem) (th : Int) (i : Nat) : (m.touch th i).words = m.words ∧ (m.touch th i).mtx = m.mtx ∧ (m.touch th i).log = m.log ∧ m.viol ≤ (m.touch th i).viol ∧ (m.touch th i).viol ≤ m.viol + 1:=by
 unfold Mem.touch;split
 · exact ⟨rfl,rfl,rfl,Int.le_refl _,by omega⟩
 · exact ⟨rfl,rfl,rfl,by dsimp only;omega,by dsimp only;omega⟩
theorem Zg (th : Int) : ∀ (l : List Nat) (m : Mem),(m.touches th l).words = m.words ∧ (m.touches th l).mtx = m.mtx ∧ (m.touches th l).log = m.log ∧ m.viol ≤ (m.touches th l).viol ∧ (m.touches th l).viol ≤ m.viol + l.length
 | [],m=>⟨rfl,rfl,rfl,Int.le_refl _,by simp [Mem.touches]⟩
 | i :: l,m=>by
  obtain ⟨a1,a2,a3,a4,a5⟩:=Zfk m th i
  obtain ⟨b1,b2,b3,b4,b5⟩:=Zg th l (m.touch th i)
  have e : m.touches th (i :: l) = (m.touch th i).touches th l:=rfl
  rw [e]
  exact ⟨b1.trans a1,b2.trans a2,b3.trans a3,by omega,by rw [List.length_cons];omega⟩
theorem ZmP (l : List Slt) (hl : l.length < 1073741824) : LSpec Tryz.prog 78 [ZoJ l] [] 0 (.ac 0 4 l.length) [(0,.dat 4 (l.map Slt.row))] 1:=by
 refine lspec tab_ok mix Tryz.func78 (by kernel_rfl) (by rfl) (by rfl) (by rfl) (by rfl) ?_
 (refine go ?_; try exact tt)
 refine ZrO ?_ ?_
 · (refine go ?_; try exact tt)
   refine .mk [(0,384)] (go ?_);try exact tt
 · intro h
   have h : l = []:=by simpa using h
   subst h
   (refine go ?_; try exact tt)
   exact .mk [(0,385)] (go tt)
theorem ZlJ (l : List Int) (hl : l.length < 1073741824) : LSpec Tryz.prog 198 [ZkI l] [] 0 (.ac 0 1 l.length) [(0,.dat 1 (l.map QF))] 1:=by
 refine lspec tab_ok mix Tryz.func198 (by kernel_rfl) (by rfl) (by rfl) (by rfl) (by rfl) ?_
 (refine go ?_; try exact tt)
 refine ZrO ?_ ?_
 · (refine go ?_; try exact tt)
   refine .mk [(0,384)] (go ?_);try exact tt
 · intro h
   have h : l = []:=by simpa using h
   subst h
   (refine go ?_; try exact tt)
   exact .mk [(0,385)] (go tt)
theorem ZB (s : Sto) : LSpec Tryz.prog 15 [.p 0 10 0 0] (ZE s 2) 5 (.p 1 4 0 0) (ZE s 2) 5:=by
 refine lspec tab_ok mix Tryz.func15 (by kernel_rfl) (by rfl) (by rfl) (by rfl) (by rfl) ?_
 (refine go ?_; try exact tt)
 exact .mk [] (go tt)
theorem Znf (s : Sto) : LSpec Tryz.prog 171 [.p 0 10 0 0] (ZE s 2) 5 (V.int s.slots.length) (ZE s 2) 5:=by
 refine lspec tab_ok mix Tryz.func171 (by kernel_rfl) (by rfl) (by rfl) (by rfl) (by rfl) ?_
 (refine go ?_; try exact tt)
 exact .mk [] (go tt)
def Sto.touch (s : Sto) (th : Int) (l : List Nat) : Sto:={ s with m:=s.m.touches th l }
theorem Zc7 (s : Sto) (th : Int) (l : List Nat) (hf : s.Fits) (hl : l.length < 10) (hi : ∀ i ∈ l,i < s.m.mtx.length) :
 LSpec Tryz.prog 163 [.p 0 10 0 0,V.int th,.lst 1 (l.map fun (i : Nat)=>[.c (.int .i64 i)]) false] (ZE s 2) 5 (.tup []) (ZE (s.touch th l) 2) 5:=by
 have h0 : s.m.touches th (l.take 0) = s.m:=rfl
 have hfm:=hf.mem
 refine lspec tab_ok mix Tryz.func163 (by kernel_rfl) (by rfl) (by rfl) (by rfl) (by rfl) ?_
 (refine go ?_; try exact tt)
 refine Y3 tab_ok mix [0,1,8,9] [0,2,3,4] (fun k : Nat=>[(10,V.int k)]) (fun k=>[(1,ZrF (s.m.touches th (l.take k)) 2 3 4)]) (fun k=>k ≤ l.length) (fun k=>l.length - k) [] 0 rfl (by omega) (by rw [h0];(refine go ?_; try exact tt)) ?_
 rintro k hk
 (refine go ?_; try exact tt)
 obtain ⟨t1,t2,t3,t4,t5⟩:=Zg th (l.take k) s.m
 have htl : (l.take k).length ≤ l.length:=by rw [List.length_take];omega
 have hfk : (s.m.touches th (l.take k)).words.length < 1000000 ∧ (s.m.touches th (l.take k)).mtx.length < 1000000:=by rw [t1,t2];exact ⟨hfm.words,hfm.mtx⟩
 refine Zf (fun u=>?_) (fun u=>?_) <;> (refine go ?_; try exact tt)
 · have u' : k < l.length:=by simpa using u
   obtain ⟨i,hik⟩:=ZF u'
   have hnx : s.m.touches th (l.take (k + 1)) = (s.m.touches th (l.take k)).touch th i:=by
    unfold Mem.touches;rw [List.take_add_one,hik,Option.toList_some,List.foldl_append];rfl
   obtain ⟨n1,n2,n3,_,_⟩:=Zfk (s.m.touches th (l.take k)) th i
   refine Zcw hik (go ?_)
   refine Za (Ztb (s.m.touches th (l.take k)) th i (by rw [t2];exact hi i (List.mem_of_getElem? hik)) hfk.2 (by have:=hfm.viol;omega)) [some 1,some 2,some 3,some 4] [] rfl (go ?_)
   refine cb (by rw [t3]) (go ?_)
   refine cb (by rw [t1]) (go ?_)
   refine cb (by rw [t2]) (go ?_)
   refine .mk [] (k + 1) (by omega) (by omega) ?_
   rw [hnx]
   (refine go ?_; try exact tt)
   refine cb (by rw [n3,t3]) (go ?_)
   refine cb (by rw [n1,t1]) (go ?_)
   refine cb (by rw [n2,t2]) (go ?_);try exact tt
 · have e : k = l.length:=by simp at u;omega
   subst e
   rw [List.take_length] at *
   refine .mk [] (go ?_)
   refine cb (by show _ = List.map Acc.row (s.m.touches th l).log;rw [t3]) (go ?_)
   refine cb (by show _ = List.map QF (s.m.touches th l).words;rw [t1]) (go ?_)
   exact cb (by show _ = List.map ZaK (s.m.touches th l).mtx;rw [t2]) (go tt)
theorem ZuE (s : Sto) (i : Nat) (x : Slt) (h : i < s.slots.length) (hl : s.slots.length < 1000000) : LSpec Tryz.prog 166 [.p 0 10 0 0,V.int i,x.v] (ZE s 2) 5 (.tup []) (ZE { s with slots:=s.slots.set i x } 2) 5:=by
 refine lspec tab_ok mix Tryz.func166 (by kernel_rfl) (by rfl) (by rfl) (by rfl) (by rfl) ?_
 (refine go ?_; try exact tt)
 refine Za (ZmP s.slots (by omega)) [] [] rfl (go ?_)
 refine atB h (go ?_)
 refine Yy (show s.slots[i]? = some s.slots[i] by simp [h]) (go ?_)
 refine .mk [] (go ?_)
 exact cb ⟨by simp,by rw [List.map_set];rfl⟩ (by (refine go ?_; try exact tt))
theorem Zck (s : Sto) (i : Nat) (h : i + 1 < s.m.words.length) (hf : s.m.Fits) : LSpec Tryz.prog 165 [.p 0 10 0 0,V.int i] (ZE s 2) 5 (V.int (s.m.word (i + 1) / 4)) (ZE s 2) 5:=by
 have hw:=hf.words
 refine lspec tab_ok mix Tryz.func165 (by kernel_rfl) (by rfl) (by rfl) (by rfl) (by rfl) ?_
 (refine go ?_; try exact tt)
 rw [show (1 + (i : Int)) = ((i + 1 : Nat) : Int) by omega]
 refine Za (ZhD s.m (i + 1) h hf) [some 1,some 2,some 3,some 4] [] rfl (go ?_)
 refine Zh (ZrX _) (go ?_)
 exact .mk [] (go tt)
def ZnA (r : Rng) (t : Int) : Bool:=decide (r.at r.cur ≤ t)
def ZkE (q : Lad) (t : Int) : Bool:=q.rungs.any fun r=>ZnA r t
def ZcY (t : Int) : List (Nat × B):=[(0,.rows 1 [[V.int t]])]
theorem Zlv (r : Rng) (t : Int) (hr : r.Fits) : LSpec Tryz.prog 240 [r.v,.p 0 1 0 0] (ZcY t) 1 (V.bool (ZnA r t)) (ZcY t) 1:=by
 refine lspec tab_ok mix Tryz.func240 (by kernel_rfl) (by rfl) (by rfl) (by rfl) (by rfl) ?_
 (refine go ?_; try exact tt)
 refine Zn (Zft r hr) (go ?_)
 exact .mk [] (go tt)
def ZuJ : Option Nat → Int
 | some i=>i
 | none=>-1
theorem Zns (l : List Rng) (t : Int) (hr : ∀ r ∈ l,r.Fits) (hl : l.length < 1000000) :
 LSpec Tryz.prog 265 [Zb7 l,.fn (.func 240) [] [.p 0 1 0 0]] (ZcY t) 1 (V.int (ZuJ (l.findIdx? fun r=>ZnA r t))) (ZcY t) 1:=by
 refine lspec tab_ok mix Tryz.func265 (by kernel_rfl) (by rfl) (by rfl) (by rfl) (by rfl) ?_
 (refine go ?_; try exact tt)
 refine Y3 tab_ok mix [0,1,7] [0] (fun i : Nat=>[(8,V.int i)]) (fun i=>[]) (fun i=>i ≤ l.length ∧ ∀ r ∈ l.take i,ZnA r t = false) (fun i=>l.length - i) [] 0 rfl ⟨by omega,by simp⟩ (by (refine go ?_; try exact tt)) ?_
 rintro i ⟨h1,h2⟩
 (refine go ?_; try exact tt)
 refine Zf (fun u=>?_) (fun u=>?_) <;> (refine go ?_; try exact tt)
 · have u' : i < l.length:=by simpa using u
   obtain ⟨r,hri⟩:=ZF u'
   refine Zcw hri (go ?_)
   refine Za (Zlv r t (hr r (List.mem_of_getElem? hri))) [some 0] [] rfl (go ?_)
   refine ZdO (fun e=>?_) (fun e=>?_) <;> (refine go ?_; try exact tt)
   · have hfi : l.findIdx? (fun r=>ZnA r t) = some i:=by
      rw [List.findIdx?_eq_some_iff_getElem]
      obtain ⟨hl',hx'⟩:=List.getElem?_eq_some_iff.1 hri
      refine ⟨hl',by rw [hx'];exact e,fun j hj=>?_⟩
      have:=h2 l[j] (List.mem_take_iff_getElem.2 ⟨j,by omega,rfl⟩)
      simpa using this
     rw [hfi]
     refine .mk [] (go ?_);try exact tt
   · refine .mk [] (i + 1) ⟨by omega,?_⟩ (by omega) ?_
     · rw [List.take_add_one,hri]
       intro y hy
       rcases List.mem_append.1 hy with hy | hy
       · exact h2 y hy
       · simp at hy;subst hy;exact e
     · (refine go ?_; try exact tt)
 · have e : i = l.length:=by simp at u;omega
   subst e
   rw [List.take_length] at h2
   have hfi : l.findIdx? (fun r=>ZnA r t) = none:=List.findIdx?_eq_none_iff.2 fun x hx=>h2 x hx
   rw [hfi]
   exact .mk [] (go tt)
theorem ZqF {l : List Rng} {p : Rng → Bool} : decide (0 ≤ ZuJ (l.findIdx? p)) = l.any p:=by
 cases h : l.findIdx? p with
 | none=>
  have h':=List.findIdx?_eq_none_iff.1 h
  have e : l.any p = false:=by rw [List.any_eq_false];intro x hx;rw [h' x hx];simp
  rw [e];rfl
 | some i=>
  obtain ⟨hl,h1,_⟩:=List.findIdx?_eq_some_iff_getElem.1 h
  have e : l.any p = true:=List.any_eq_true.2 ⟨l[i],List.getElem_mem hl,h1⟩
  rw [e];exact decide_eq_true (show (0 : Int) ≤ (i : Int) by omega)
theorem ZgD (l : List Rng) (t : Int) (hr : ∀ r ∈ l,r.Fits) (hl : l.length < 1000000) :
 LSpec Tryz.prog 239 [Zb7 l,.fn (.func 240) [] [.p 0 1 0 0]] (ZcY t) 1 (V.bool (l.any fun r=>ZnA r t)) (ZcY t) 1:=by
 refine lspec tab_ok mix Tryz.func239 (by kernel_rfl) (by rfl) (by rfl) (by rfl) (by rfl) ?_
 (refine go ?_; try exact tt)
 refine Za (Zns l t hr hl) [some 0] [] rfl (go ?_)
 rw [ZqF]
 exact .mk [] (go tt)
theorem ZcB (s : Sto) (t : Int) (hr : ∀ r ∈ s.q.rungs,r.Fits) (hl : s.q.rungs.length < 1000000) : LSpec Tryz.prog 199 [.p 0 10 0 0,V.int t] (ZE s 2) 5 (V.bool (ZkE s.q t)) (ZE s 2) 5:=by
 refine lspec tab_ok mix Tryz.func199 (by kernel_rfl) (by rfl) (by rfl) (by rfl) (by rfl) ?_
 (refine go ?_; try exact tt)
 refine Za (ZgD s.q.rungs t hr hl) [some 64] [] rfl (go ?_)
 exact .mk [] (go tt)
theorem Sto.touch_fits {s : Sto} (hf : s.Fits) (th : Int) (l : List Nat) (hv : s.m.viol + l.length < 1000000000) : (s.touch th l).Fits:=by
 obtain ⟨t1,t2,t3,t4,t5⟩:=Zg th l s.m
 have:=hf.mem.viol
 exact ⟨⟨by show (s.m.touches th l).log.length < _;rw [t3];exact hf.mem.log,by show 0 ≤ (s.m.touches th l).viol ∧ (s.m.touches th l).viol < _;omega,by show (s.m.touches th l).words.length < _;rw [t1];exact hf.mem.words,by show (s.m.touches th l).mtx.length < _;rw [t2];exact hf.mem.mtx⟩,hf.slots,hf.idle,hf.next⟩
def Sto.accepts (s : Sto) (th t : Int) : Sto × Bool:=(s.touch th [1],ZkE s.q t)
theorem ZnW (s : Sto) (th t : Int) (hf : s.Fits) (hm : 4 ≤ s.m.mtx.length) (hr : ∀ r ∈ s.q.rungs,r.Fits) (hl : s.q.rungs.length < 1000000) :
 LSpec Tryz.prog 260 [.p 0 10 0 0,V.int th,V.int t] (ZE s 2) 5 (V.bool (s.accepts th t).2) (ZE (s.accepts th t).1 2) 5:=by
 refine lspec tab_ok mix Tryz.func260 (by kernel_rfl) (by rfl) (by rfl) (by rfl) (by rfl) ?_
 (refine go ?_; try exact tt)
 refine Za (Zc7 s th [1] hf (by decide) (by simp <;> omega)) [some 0,some 1,some 2,some 3,some 4] [] rfl (go ?_)
 refine Za (ZcB (s.touch th [1]) t hr hl) [some 0,some 1,some 2,some 3,some 4] [] rfl (go ?_)
 exact .mk [] (go tt)
def Sto.replace (s : Sto) (th : Int) (q : Lad) : Sto:={ s with m:=if q.topStart = s.q.topStart then s.m else s.m.store th 0 q.topStart,q:=q }
theorem ZkJ (s : Sto) (th : Int) (q : Lad) (hf : s.Fits) (hw : 0 < s.m.words.length) : LSpec Tryz.prog 248 [.p 0 10 0 0,V.int th,q.v] (ZE s 2) 5 (.tup []) (ZE (s.replace th q) 5) 6:=by
 unfold Sto.replace
 by_cases h : q.topStart = s.q.topStart
 · rw [if_pos h]
   refine lspec tab_ok mix Tryz.func248 (by kernel_rfl) (by rfl) (by rfl) (by rfl) (by rfl) ?_
   (refine go ?_; try exact tt)
   rw [show (!decide (q.topStart = s.q.topStart)) = false by simp [h]]
   (refine go ?_; try exact tt)
   refine .mk [(5,2)] (go ?_);try exact tt
 · rw [if_neg h]
   refine lspec tab_ok mix Tryz.func248 (by kernel_rfl) (by rfl) (by rfl) (by rfl) (by rfl) ?_
   (refine go ?_; try exact tt)
   rw [show (!decide (q.topStart = s.q.topStart)) = true by simp [h]]
   (refine go ?_; try exact tt)
   refine Zu (ZmU s.m th 0 q.topStart hw hf.mem) [some 1,some 2,some 3,some 4] [] (go ?_)
   exact .mk [(5,1088)] (go tt)
def Sto.take (s : Sto) (th : Int) (q : Lad) : Sto:=(s.touch th [0,1,2]).replace th q
theorem ZsL (s : Sto) (th : Int) {f : FuncId} {q : Lad} {it : Item} {ok : Bool} (hq : PSpec Tryz.prog f [s.q.v] (.tup [q.v,it.v,V.bool ok])) (hf : s.Fits) (hv : s.m.viol < 100000000) (hm : 4 ≤ s.m.mtx.length) (hw : 0 < s.m.words.length) :
 LSpec Tryz.prog 201 [.p 0 10 0 0,V.int th,.fn (.func f) [] []] (ZE s 2) 5 (.tup [it.v,V.bool ok]) (ZE (s.take th q) 5) 6:=by
 have hf1:=Sto.touch_fits hf th [0,1,2] (by simp;omega)
 have ht:=Zg th [0,1,2] s.m
 refine lspec tab_ok mix Tryz.func201 (by kernel_rfl) (by rfl) (by rfl) (by rfl) (by rfl) ?_
 (refine go ?_; try exact tt)
 refine Za (Zc7 s th [0,1,2] hf (by decide) (by simp <;> omega)) [some 0,some 1,some 2,some 3,some 4] [] rfl (go ?_)
 refine Zh hq (go ?_)
 refine Za (ZkJ (s.touch th [0,1,2]) th q hf1 (by show 0 < (s.m.touches th [0,1,2]).words.length;rw [ht.1];exact hw)) [some 0,some 1,some 2,some 3,some 4] [] rfl (go ?_)
 exact .mk [(5,1600)] (go tt)
theorem Zsn (s : Sto) (th : Int) {q : Lad} {it : Item} {ok : Bool} (hq : PSpec Tryz.prog 202 [s.q.v] (.tup [q.v,it.v,V.bool ok])) (hf : s.Fits) (hv : s.m.viol < 100000000) (hm : 4 ≤ s.m.mtx.length) (hw : 0 < s.m.words.length) :
 LSpec Tryz.prog 143 [.p 0 10 0 0,V.int th] (ZE s 2) 5 (.tup [it.v,V.bool ok]) (ZE (s.take th q) 5) 6:=by
 refine lspec tab_ok mix Tryz.func143 (by kernel_rfl) (by rfl) (by rfl) (by rfl) (by rfl) ?_
 (refine go ?_; try exact tt)
 refine Za (ZsL s th hq hf hv hm hw) [some 0,some 1,some 2,some 3,some 4] [] rfl (go ?_)
 exact .mk [(5,320)] (go tt)
theorem ZsH (s : Sto) (th : Int) {q : Lad} {it : Item} {ok : Bool} (hq : PSpec Tryz.prog 203 [s.q.v] (.tup [q.v,it.v,V.bool ok])) (hf : s.Fits) (hv : s.m.viol < 100000000) (hm : 4 ≤ s.m.mtx.length) (hw : 0 < s.m.words.length) :
 LSpec Tryz.prog 144 [.p 0 10 0 0,V.int th] (ZE s 2) 5 (.tup []) (ZE (s.take th q) 5) 6:=by
 refine lspec tab_ok mix Tryz.func144 (by kernel_rfl) (by rfl) (by rfl) (by rfl) (by rfl) ?_
 (refine go ?_; try exact tt)
 refine Za (ZsL s th hq hf hv hm hw) [some 0,some 1,some 2,some 3,some 4] [] rfl (go ?_)
 exact .mk [(5,192)] (go tt)
def Sto.slot (s : Sto) (i : Nat) : Slt:=(s.slots[i]?).getD ⟨0,0,0,0⟩
theorem Sto.slot_get {s : Sto} {i : Nat} (h : i < s.slots.length) : s.slots[i]? = some (s.slot i):=by
 unfold Sto.slot
 rw [List.getElem?_eq_getElem h];rfl
def Sto.putL (s : Sto) (t : Int) : List Nat:=if s.q.topStart ≤ t then [0] else if ZkE s.q t = true then [1] else [1,2]
def Sto.item (s : Sto) (i : Nat) : Item:=⟨(s.slot i).time,(s.slot i).seq,i⟩
def Sto.put (s : Sto) (th : Int) (i : Nat) : Sto:={ s.touch th (s.putL (s.slot i).time) with q:=Z6 s.q (s.item i) }
theorem ZtL (s : Sto) (th : Int) (i : Nat) (h : i < s.slots.length) (hf : s.Fits) (hv : s.m.viol < 100000000) (hm : 4 ≤ s.m.mtx.length) (hr : ∀ r ∈ s.q.rungs,r.Fits) (hl : s.q.rungs.length < 1000000)
 (hq : PSpec Tryz.prog 200 [s.q.v,(s.item i).v] ((Z6 s.q (s.item i)).v)) :
 LSpec Tryz.prog 142 [.p 0 10 0 0,V.int th,V.int i] (ZE s 2) 5 (.tup []) (ZE (s.put th i) 2) 5:=by
 have hg:=Sto.slot_get h
 unfold Sto.put Sto.putL
 by_cases g : s.q.topStart ≤ (s.slot i).time
 · rw [if_pos g]
   refine lspec tab_ok mix Tryz.func142 (by kernel_rfl) (by rfl) (by rfl) (by rfl) (by rfl) ?_
   (refine go ?_; try exact tt)
   refine Zcw hg (go ?_)
   rw [decide_eq_true g]
   (refine go ?_; try exact tt)
   refine Za (Zc7 s th [0] hf (by decide) (by simp <;> omega)) [some 0,some 1,some 2,some 3,some 4] [] rfl (go ?_)
   refine Zn hq (go ?_)
   refine .mk [] (go ?_);try exact tt
 · rw [if_neg g]
   cases hx : ZkE s.q (s.slot i).time with
   | true=>
    rw [if_pos rfl]
    refine lspec tab_ok mix Tryz.func142 (by kernel_rfl) (by rfl) (by rfl) (by rfl) (by rfl) ?_
    (refine go ?_; try exact tt)
    refine Zcw hg (go ?_)
    rw [decide_eq_false g]
    (refine go ?_; try exact tt)
    refine Za (ZcB s (s.slot i).time hr hl) [some 0,some 1,some 2,some 3,some 4] [] rfl (go ?_)
    rw [hx]
    (refine go ?_; try exact tt)
    refine Za (Zc7 s th [1] hf (by decide) (by simp <;> omega)) [some 0,some 1,some 2,some 3,some 4] [] rfl (go ?_)
    refine Zn hq (go ?_)
    exact .mk [] (go tt)
   | false=>
    rw [if_neg (by simp)]
    refine lspec tab_ok mix Tryz.func142 (by kernel_rfl) (by rfl) (by rfl) (by rfl) (by rfl) ?_
    (refine go ?_; try exact tt)
    refine Zcw hg (go ?_)
    rw [decide_eq_false g]
    (refine go ?_; try exact tt)
    refine Za (ZcB s (s.slot i).time hr hl) [some 0,some 1,some 2,some 3,some 4] [] rfl (go ?_)
    rw [hx]
    (refine go ?_; try exact tt)
    refine Za (Zc7 s th [1,2] hf (by decide) (by simp <;> omega)) [some 0,some 1,some 2,some 3,some 4] [] rfl (go ?_)
    refine Zn hq (go ?_)
    exact .mk [] (go tt)
def Sto.alloc1 (s : Sto) (th t : Int) (idle : List Int) (i : Nat) : Sto:=
 { s with m:=s.m.store th (i + 1) (4 * (s.m.word (i + 1) / 4) + 1),slots:=s.slots.set i ⟨0,0,t,s.next⟩,idle:=idle,next:=s.next + 1 }
theorem Zrc (s : Sto) (th t : Int) (h : s.idle = []) (hf : s.Fits) (hm : 4 ≤ s.m.mtx.length) : LSpec Tryz.prog 140 [.p 0 10 0 0,V.int th,V.int t] (ZE s 2) 5 (.tup [V.int 0,V.bool false]) (ZE (s.touch th [3]) 5) 6:=by
 have h1 : (s.touch th [3]).idle = []:=h
 refine lspec tab_ok mix Tryz.func140 (by kernel_rfl) (by rfl) (by rfl) (by rfl) (by rfl) ?_
 (refine go ?_; try exact tt)
 refine Za (Zc7 s th [3] hf (by decide) (by simp <;> omega)) [some 0,some 1,some 2,some 3,some 4] [] rfl ?_
 generalize s.touch th [3] = s1 at *
 (refine go ?_; try exact tt)
 rw [show decide (((s1.idle.map QF).length : Int) = 0) = true from decide_eq_true (by rw [h1];rfl)]
 (refine go ?_; try exact tt)
 exact .mk [(5,2)] (go tt)
theorem ZsA (s : Sto) (th t : Int) (l : List Int) (i : Nat) (h : s.idle = l ++ [(i : Int)]) (hf : s.Fits) (hv : s.m.viol < 100000000) (hm : 4 ≤ s.m.mtx.length) (hi : i < s.slots.length) (hw : i + 1 < s.m.words.length) (h64 : i < 64)
 (hg : 0 ≤ s.m.word (i + 1) / 4 ∧ s.m.word (i + 1) / 4 ≤ 1099511627776) :
 LSpec Tryz.prog 140 [.p 0 10 0 0,V.int th,V.int t] (ZE s 2) 5 (.tup [V.int (64 * (s.m.word (i + 1) / 4) + i),V.bool true]) (ZE ((s.touch th [3]).alloc1 th t l i) 5) 6:=by
 have hf1:=Sto.touch_fits hf th [3] (by simp;omega)
 obtain ⟨t1,t2,t3,t4,t5⟩:=Zg th [3] s.m
 have h1 : (s.touch th [3]).idle = l ++ [(i : Int)]:=h
 have hi1 : i < (s.touch th [3]).slots.length:=hi
 have hw1 : i + 1 < (s.touch th [3]).m.words.length:=by show i + 1 < (s.m.touches th [3]).words.length;rw [t1];exact hw
 have hwd : s.m.word (i + 1) = (s.touch th [3]).m.word (i + 1):=by
  show (s.m.words[i + 1]?).getD 0 = ((s.m.touches th [3]).words[i + 1]?).getD 0
  rw [t1]
 have hg1:=Zc7 s th [3] hf (by decide) (by simp <;> omega)
 rw [hwd] at hg ⊢
 clear t1 t2 t3 t4 t5 hwd hi hw h
 generalize s.touch th [3] = s1 at *
 have hid:=hf1.idle
 have hnx:=hf1.next
 have hget : s1.idle[l.length]? = some (i : Int):=by rw [h1];simp
 have hlen : s1.idle.length = l.length + 1:=by rw [h1];simp
 refine lspec tab_ok mix Tryz.func140 (by kernel_rfl) (by rfl) (by rfl) (by rfl) (by rfl) ?_
 (refine go ?_; try exact tt)
 refine Za hg1 [some 0,some 1,some 2,some 3,some 4] [] rfl (go ?_)
 rw [show decide (((s1.idle.map QF).length : Int) = 0) = false from decide_eq_false (by simp only [List.length_map];omega)]
 (refine go ?_; try exact tt)
 refine wrB (by simp only [List.length_map];omega) (go ?_)
 refine QI l.length i (by simp only [List.length_map];omega) hget (go ?_)
 refine wrB (by simp only [List.length_map];omega) (go ?_)
 refine slB 0 l.length rfl (by show _ = _;simp only [List.length_map];omega) (by simp only [List.length_map];omega) ?_
 rw [show ((s1.idle.map QF).drop 0).take (l.length - 0) = l.map QF by rw [h1];simp]
 (refine go ?_; try exact tt)
 refine Za (ZlJ l (by omega)) [] [] rfl (go ?_)
 refine Za (ZuE { s1 with idle:=l } i ⟨0,0,t,s1.next⟩ hi1 hf1.slots) [some 0,some 1,some 2,some 3,some 4] [2240] rfl (go ?_)
 refine wrB (by show -9223372036854775808 ≤ s1.next + 1 ∧ s1.next + 1 ≤ 9223372036854775807;omega) (go ?_)
 refine Za (Zck { s1 with idle:=l,slots:=s1.slots.set i ⟨0,0,t,s1.next⟩,next:=s1.next + 1 } i hw1 hf1.mem) [some 0,some 1,some 2,some 3,some 4] [] rfl (go ?_)
 refine Zn (Zmg (s1.m.word (i + 1) / 4) 1 ⟨⟨hg.1,by have:=hg.2;omega⟩,by omega⟩) (go ?_)
 rw [show (1 + (i : Int)) = ((i + 1 : Nat) : Int) by omega]
 refine Zu (ZmU s1.m th (i + 1) (4 * (s1.m.word (i + 1) / 4) + 1) hw1 hf1.mem) [some 1,some 2,some 3,some 4] [] (go ?_)
 refine Zh (Ztl i (s1.m.word (i + 1) / 4) ⟨⟨hg.1,by have:=hg.2;omega⟩,by omega⟩) (go ?_)
 exact .mk [(5,4672)] (go tt)
theorem ZlG (l : List Int) : PSpec Tryz.prog 167 [ZkI l] (.lst 1 (l.map QF) true):=by
 refine pspec tab_ok mix Tryz.func167 (by kernel_rfl) rfl rfl ?_
 (refine go ?_; try exact tt)
 refine slB 0 l.length rfl (by simp [Zkw]) (by simp) (go ?_)
 exact .same (by rw [List.take_of_length_le (by simp)];rfl)
def Sto.free1 (s : Sto) (th : Int) (i : Nat) : Sto:=
 { s with m:=s.m.store th (i + 1) (4 * (s.m.word (i + 1) / 4 + 1) + 0),slots:=s.slots.set i ⟨0,0,0,0⟩,idle:=s.idle ++ [(i : Int)] }
theorem Zt5 (s : Sto) (th : Int) (i : Nat) (hf : s.Fits) (hv : s.m.viol < 100000000) (hm : 4 ≤ s.m.mtx.length) (hi : i < s.slots.length) (hw : i + 1 < s.m.words.length)
 (hg : 0 ≤ s.m.word (i + 1) / 4 ∧ s.m.word (i + 1) / 4 ≤ 1099511627776) :
 LSpec Tryz.prog 89 [.p 0 10 0 0,V.int th,V.int i] (ZE s 2) 5 (.tup []) (ZE ((s.touch th [3]).free1 th i) 5) 6:=by
 have hf1:=Sto.touch_fits hf th [3] (by simp;omega)
 obtain ⟨t1,t2,t3,t4,t5⟩:=Zg th [3] s.m
 have hi1 : i < (s.touch th [3]).slots.length:=hi
 have hw1 : i + 1 < (s.touch th [3]).m.words.length:=by show i + 1 < (s.m.touches th [3]).words.length;rw [t1];exact hw
 have hwd : s.m.word (i + 1) = (s.touch th [3]).m.word (i + 1):=by
  show (s.m.words[i + 1]?).getD 0 = ((s.m.touches th [3]).words[i + 1]?).getD 0
  rw [t1]
 have hg1:=Zc7 s th [3] hf (by decide) (by simp <;> omega)
 rw [hwd] at hg
 clear t1 t2 t3 t4 t5 hwd hi hw
 generalize s.touch th [3] = s1 at *
 have hid:=hf1.idle
 have hsl:=hf1.slots
 refine lspec tab_ok mix Tryz.func89 (by kernel_rfl) (by rfl) (by rfl) (by rfl) (by rfl) ?_
 (refine go ?_; try exact tt)
 refine Za hg1 [some 0,some 1,some 2,some 3,some 4] [] rfl (go ?_)
 refine Yq (Zck s1 i hw1 hf1.mem) [some 0,some 1,some 2,some 3,some 4] rfl rfl (go ?_)
 refine Zn (Zmg (s1.m.word (i + 1) / 4 + 1) 0 ⟨⟨by omega,by have:=hg.2;omega⟩,by omega⟩) (go ?_)
 rw [show (1 + (i : Int)) = ((i + 1 : Nat) : Int) by omega]
 refine Zu (ZmU s1.m th (i + 1) (4 * (s1.m.word (i + 1) / 4 + 1) + 0) hw1 hf1.mem) [some 1,some 2,some 3,some 4] [] (go ?_)
 refine Za (ZuE { s1 with m:=s1.m.store th (i + 1) (4 * (s1.m.word (i + 1) / 4 + 1) + 0) } i ⟨0,0,0,0⟩ hi1 hsl) [some 0,some 1,some 1088,some 3,some 4] [] rfl (go ?_)
 refine Zh (ZlG s1.idle) (go ?_)
 refine .mk [(5,1088)] (go ?_)
 exact cb ⟨by simp [Sto.free1],by simp [Sto.free1,QF]⟩ (by (refine go ?_; try exact tt))
def ZkB (l : List Int) (k : Nat) : List Int:=(List.range l.length).map fun p=>if p < k ∨ l.length ≤ p + k then (l[l.length - 1 - p]?).getD 0 else (l[p]?).getD 0
theorem Zba (l : List Int) (k : Nat) : (ZkB l k).length = l.length:=by simp [ZkB]
theorem Zbp (l : List Int) (k : Nat) {p : Nat} (h : p < l.length) : (ZkB l k)[p]? = some (if p < k ∨ l.length ≤ p + k then (l[l.length - 1 - p]?).getD 0 else (l[p]?).getD 0):=by
 unfold ZkB
 rw [List.getElem?_map,List.getElem?_range h];rfl
theorem ZlW (l : List Int) : ZkB l 0 = l:=by
 apply List.ext_getElem?
 intro p
 by_cases h : p < l.length
 · rw [Zbp l 0 h,if_neg (by omega),List.getElem?_eq_getElem h];rfl
 · rw [List.getElem?_eq_none (by rw [Zba];omega),List.getElem?_eq_none (by omega)]
theorem Zoa (l : List Int) {k : Nat} (h : l.length ≤ 2 * k + 1) : ZkB l k = l.reverse:=by
 apply List.ext_getElem?
 intro p
 by_cases hp : p < l.length
 · rw [Zbp l k hp,List.getElem?_reverse hp]
   have h1 : (l[l.length - 1 - p]?).getD 0 = l[l.length - 1 - p]'(by omega):=by rw [List.getElem?_eq_getElem (by omega)];rfl
   by_cases c : p < k ∨ l.length ≤ p + k
   · rw [if_pos c,h1,List.getElem?_eq_getElem (by omega)]
   · rw [if_neg c]
     have e : l.length - 1 - p = p:=by omega
     rw [e,List.getElem?_eq_getElem hp];rfl
 · rw [List.getElem?_eq_none (by rw [Zba];omega),List.getElem?_eq_none (by rw [List.length_reverse];omega)]
theorem ZkN (l : List Int) {k : Nat} (h : 2 * k + 1 < l.length) :
 ((ZkB l k).set k ((l[l.length - 1 - k]?).getD 0)).set (l.length - 1 - k) ((l[k]?).getD 0) = ZkB l (k + 1):=by
 apply List.ext_getElem?
 intro p
 by_cases hp : p < l.length
 · rw [Zbp l (k + 1) hp,List.getElem?_set,List.getElem?_set,List.length_set,Zba,Zbp l k hp]
   by_cases h1 : l.length - 1 - k = p
   · rw [if_pos h1,if_pos (by omega),if_pos (by omega),show l.length - 1 - p = k by omega]
   · rw [if_neg h1]
     by_cases h2 : k = p
     · rw [if_pos h2,if_pos (by omega),if_pos (by omega),h2]
     · rw [if_neg h2]
       by_cases c : p < k ∨ l.length ≤ p + k
       · rw [if_pos c,if_pos (by omega)]
       · rw [if_neg c,if_neg (by omega)]
 · rw [List.getElem?_eq_none (by simp [Zba];omega),List.getElem?_eq_none (by rw [Zba];omega)]
theorem ZnG (l : List Int) (hl : l.length < 1000000) : LSpec Tryz.prog 187 [.ac 0 1 l.length] [(0,.dat 1 (l.map QF))] 1 (.tup []) [(0,.dat 1 (l.reverse.map QF))] 1:=by
 have h0:=ZlW l
 refine lspec tab_ok mix Tryz.func187 (by kernel_rfl) (by rfl) (by rfl) (by rfl) (by rfl) ?_
 (refine go ?_; try exact tt)
 refine Y3 tab_ok mix [0] [] (fun k : Nat=>[(2,V.int k),(3,V.int ((l.length : Int) - 1 - k))]) (fun k=>[(0,.dat 1 ((ZkB l k).map QF))]) (fun k=>2 * k ≤ l.length + 1) (fun k=>l.length + 1 - k) [] 0 rfl (by omega) (by rw [h0];(refine go ?_; try exact tt)) ?_
 rintro k hk
 (refine go ?_; try exact tt)
 refine Zf (fun u=>?_) (fun u=>?_) <;> (refine go ?_; try exact tt)
 · have u' : 2 * k + 1 < l.length:=by omega
   have hj : l.length - 1 - k < (ZkB l k).length:=by rw [Zba];omega
   have gj : (ZkB l k)[l.length - 1 - k]? = some ((l[l.length - 1 - k]?).getD 0):=by rw [Zbp l k (by omega),if_neg (by omega)]
   have gk : (ZkB l k)[k]? = some ((l[k]?).getD 0):=by rw [Zbp l k (by omega),if_neg (by omega)]
   have hnx:=ZkN l u'
   generalize (l[l.length - 1 - k]?).getD 0 = x at *
   generalize (l[k]?).getD 0 = y at *
   refine Z7 (l.length - 1 - k) (by omega) (by omega) (go ?_)
   refine Yy gj (go ?_)
   refine atB (show k < l.length by omega) (go ?_)
   refine Yy gk (go ?_)
   refine atB (show k < l.length by omega) (go ?_)
   refine Y6 (QF y) (by simp [gk]) (go ?_)
   refine Z7 (l.length - 1 - k) (by omega) (by omega) (go ?_)
   refine Y6 (QF x) ?_ ?_
   · rw [List.getElem?_set_ne (by omega),List.getElem?_map,gj];rfl
   (refine go ?_; try exact tt)
   refine .mk [] (k + 1) (by omega) (by omega) ?_
   rw [← hnx]
   (refine go ?_; try exact tt)
   exact cb (by rw [List.map_set,List.map_set];rfl) (by (refine go ?_; try exact tt))
 · refine .mk [] (go ?_)
   exact cb (by rw [Zoa l (by omega)]) (by (refine go ?_; try exact tt))
def Zkr (n : Nat) : List Int:=((List.range n).map fun i : Nat=>(i : Int)).reverse
def Zr7 (i : Nat) : List Int:=(List.range i).map fun k : Nat=>(k : Int)
def slt0 : Slt:=⟨0,0,0,0⟩
theorem ZmH (n : Nat) (h : 1 ≤ n ∧ n ≤ 64) : PSpec Tryz.prog 123 [V.int n] (.tup [.agg [ZoJ (List.replicate n slt0),ZkI (Zkr n),V.int 0],V.int 0]):=by
 refine pspec tab_ok mix Tryz.func123 (by kernel_rfl) rfl rfl ?_
 (refine go ?_; try exact tt)
 rw [show decide ((n : Int) < 1) = false from decide_eq_false (by omega)]
 (refine go ?_; try exact tt)
 rw [show decide ((64 : Int) < n) = false from decide_eq_false (by omega)]
 (refine go ?_; try exact tt)
 refine Zoz tab_ok n slt0.row _ rfl (.c _ rfl (.c _ rfl (.c _ rfl (.c _ rfl .nil)))) rfl rfl (by omega) rfl (go ?_)
 have hup : ∀ i,(Zr7 i).length = i:=fun i=>by simp [Zr7]
 refine Y3 tab_ok mix [2,4,16] [0,576] (fun i : Nat=>[(17,V.int i)]) (fun i=>[(704,.rows 3 [[.ac 576 4 n,.ac 1 1 i,V.int 0]]),(1,.dat 1 ((Zr7 i).map QF))]) (fun i=>i ≤ n) (fun i=>n - i) [(1,705)] 0 rfl (by omega) (by (refine go ?_; try exact tt)) ?_
 rintro i hi
 (refine go ?_; try exact tt)
 refine Zf (fun u=>?_) (fun u=>?_) <;> (refine go ?_; try exact tt)
 · have u' : i < n:=by omega
   refine cb (by rw [List.length_map,hup];exact ⟨rfl,by simp;omega⟩) (go ?_)
   refine .mk [(1,1408)] (i + 1) (by omega) (by omega) (go ?_)
   exact cb (by simp [Zr7,List.range_succ,QF]) (by (refine go ?_; try exact tt))
 · obtain rfl : i = n:=by omega
   refine Za (ZnG (Zr7 i) (by rw [hup];omega)) [some 1] [] rfl (go ?_)
   refine cb (hup i).symm (go ?_)
   refine Qo (go ?_)
   exact cb ⟨by simp [hup],by rfl⟩ (by (refine go ?_; try exact tt))
theorem Zk7 (n : Nat) (h : 1 ≤ n ∧ n ≤ 64) : LSpec Tryz.prog 60 [V.int n] [] 0 (.p 0 10 0 0) (ZE ⟨ZnE (n + 1) 4,List.replicate n slt0,Zkr n,0,⟨0,[],[],[],0,0⟩⟩ 2) 5:=by
 refine lspec tab_ok mix Tryz.func60 (by kernel_rfl) (by rfl) (by rfl) (by rfl) (by rfl) ?_
 (refine go ?_; try exact tt)
 refine Zh (ZmH n h) (go ?_)
 rw [show ((n : Int) + 1) = ((n + 1 : Nat) : Int) by omega,show V.c (Value.int IntKind.i64 4) = V.int ((4 : Nat) : Int) from rfl]
 refine Zu (Zqr (n + 1) 4 (by omega) (by omega)) [] [] (go ?_)
 refine Zn ZqX (go ?_)
 exact .mk [(0,1152),(1,896),(2,897),(3,898),(4,899)] (go tt)
open Go.ChangeShapes Go.WideShapes Go.ChangeAt Go.RowKit
set_option maxRecDepth 100000
theorem Ztu {n : Int} {K : Int → Prop} (h : 0 ≤ n ∧ n ≤ 9223372036854775807) (k : K n) : WrB .u64 n K:=⟨by
 have e : wr .u64 n = n:=by
  have e : wr .u64 n = IntKind.wrap .u64 n:=rfl
  rw [e,IntKind.wrap_u64];omega
 rw [e];exact k⟩
end Go.Proofs.YtdjnjchpgccbiaaGreat.Abs
