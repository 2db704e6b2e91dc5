/- Handles and words: what their packing reckons, in the program and in the reference. -/
import Derived.Test.YtdjnjchpgccbiaaGreatK2
import Derived.Test.YtdjnjchpgccbiaaGreatC16
import Derived.IntWalk
import Derived.Test.YtdjnjchpgccbiaaGreatF30
import Derived.ProofKit
import Derived.OpenShut
import Derived.Lib.Hide
namespace Go.Proofs.YtdjnjchpgccbiaaGreat.Abs
open Go.Proofs
set_option maxRecDepth 10000
set_option linter.unusedSimpArgs false
set_option linter.unusedVariables false
theorem or_add (k : Nat) (g s : Int) (hg0 : 0 ≤ g) (hs0 : 0 ≤ s) (hs : s < 2 ^ k) (hk : g * 2 ^ k < 2 ^ 60) (hs2 : s < 2 ^ 60) :
 bits BinOp.or IntKind.i64 (g * 2 ^ k) s = g * 2 ^ k + s:=by
 obtain ⟨g,rfl⟩:=Int.eq_ofNat_of_zero_le hg0
 obtain ⟨s,rfl⟩:=Int.eq_ofNat_of_zero_le hs0
 have e : ((g : Int) * 2 ^ k) = ((g * 2 ^ k : Nat) : Int):=by simp
 rw [e] at hk ⊢
 have hs' : s < 2 ^ k:=by exact_mod_cast hs
 have hk' : g * 2 ^ k < 2 ^ 60:=by exact_mod_cast hk
 have hs3 : s < 2 ^ 60:=by exact_mod_cast hs2
 have ho : (g * 2 ^ k) ||| s = g * 2 ^ k + s:=by
  rw [Nat.mul_comm,Nat.two_pow_add_eq_or_of_lt hs']
 have hb : (BitVec.ofInt 64 ((g * 2 ^ k : Nat) : Int) ||| BitVec.ofInt 64 (s : Int)).toNat = g * 2 ^ k + s:=by
  rw [BitVec.toNat_or,BitVec.ofInt_natCast,BitVec.ofInt_natCast,BitVec.toNat_ofNat,BitVec.toNat_ofNat,Nat.mod_eq_of_lt (by omega),Nat.mod_eq_of_lt (by omega),ho]
 show IntKind.i64.wrap ((BitVec.ofInt 64 ((g * 2 ^ k : Nat) : Int) ||| BitVec.ofInt 64 (s : Int)).toNat : Int) = _
 rw [hb,IntWalk.i64_in _ (by omega)]
 simp
theorem and_mod (k : Nat) (hk : k < 62) (p : Int) (hp0 : 0 ≤ p) (hp : p < 2 ^ 62) : bits BinOp.and IntKind.i64 p (2 ^ k - 1) = p % 2 ^ k:=by
 obtain ⟨p,rfl⟩:=Int.eq_ofNat_of_zero_le hp0
 have h1 : 1 ≤ 2 ^ k:=Nat.one_le_two_pow
 have h2 : 2 ^ k < 2 ^ 62:=Nat.pow_lt_pow_right (by omega) hk
 have e : ((2 : Int) ^ k - 1) = ((2 ^ k - 1 : Nat) : Int):=by rw [Int.natCast_sub h1];simp
 rw [e]
 have hp' : p < 2 ^ 62:=by exact_mod_cast hp
 have hlt : p % 2 ^ k < 2 ^ 62:=Nat.lt_of_le_of_lt (Nat.mod_le _ _) hp'
 have hb : (BitVec.ofInt 64 (p : Int) &&& BitVec.ofInt 64 ((2 ^ k - 1 : Nat) : Int)).toNat = p % 2 ^ k:=by
  rw [BitVec.toNat_and,BitVec.ofInt_natCast,BitVec.ofInt_natCast,BitVec.toNat_ofNat,BitVec.toNat_ofNat,Nat.mod_eq_of_lt (by omega),Nat.mod_eq_of_lt (by omega),Nat.and_two_pow_sub_one_eq_mod]
 show IntKind.i64.wrap ((BitVec.ofInt 64 (p : Int) &&& BitVec.ofInt 64 ((2 ^ k - 1 : Nat) : Int)).toNat : Int) = _
 rw [hb,IntWalk.i64_in _ (by omega)]
 simp
theorem or_four (g s : Int) (h : (0 ≤ g ∧ g ≤ 2199023255552) ∧ 0 ≤ s ∧ s < 4) : bits BinOp.or IntKind.i64 (g * 4) s = 4 * g + s:=by
 have:=or_add 2 g s h.1.1 h.2.1 (by omega) (by omega) (by omega)
 simp only [show (2 : Int) ^ 2 = 4 from rfl] at this
 rw [this];omega
theorem or_64 (g s : Int) (h : (0 ≤ g ∧ g ≤ 2199023255552) ∧ 0 ≤ s ∧ s < 64) : bits BinOp.or IntKind.i64 (g * 64) s = 64 * g + s:=by
 have:=or_add 6 g s h.1.1 h.2.1 (by omega) (by omega) (by omega)
 simp only [show (2 : Int) ^ 6 = 64 from rfl] at this
 rw [this];omega
theorem pow2 : (2 : Int) ^ min (Int.toNat 2) IntKind.i64.bits = 4:=rfl
theorem pow6 : (2 : Int) ^ min (Int.toNat 6) IntKind.i64.bits = 64:=rfl
theorem wordC (g s : Int) (h : (0 ≤ g ∧ g ≤ 2199023255552) ∧ 0 ≤ s ∧ s < 4) : PSpec Tryz.prog 159 [V.int g,V.int s] (V.int (4 * g + s)):=by
 refine pspec tab_ok mix Tryz.func159 (by kernel_rfl) rfl rfl ?_
 (refine go ?_; try exact True.intro)
 rw [pow2]
 refine wrB (by omega) (go ?_)
 exact .same (by rw [← or_four g s h])
theorem makeC (s g : Int) (h : (0 ≤ g ∧ g ≤ 2199023255552) ∧ 0 ≤ s ∧ s < 64) : PSpec Tryz.prog 161 [V.int s,V.int g] (V.int (64 * g + s)):=by
 refine pspec tab_ok mix Tryz.func161 (by kernel_rfl) rfl rfl ?_
 (refine go ?_; try exact True.intro)
 rw [pow6]
 refine wrB (by omega) (go ?_)
 exact .same (by rw [← or_64 g s h])
theorem fdiv4 (p : Int) : p.fdiv (2 ^ min (Int.toNat 2) IntKind.i64.bits) = p / 4:=by rw [pow2];exact Int.fdiv_eq_ediv_of_nonneg _ (by omega)
theorem high2C (p : Int) : PSpec Tryz.prog 152 [V.int p,V.int 2] (V.int (p / 4)):=by
 refine pspec tab_ok mix Tryz.func152 (by kernel_rfl) rfl rfl ?_
 (refine go ?_; try exact True.intro)
 exact .same (by rw [← fdiv4])
theorem and_four (p : Int) (h : 0 ≤ p ∧ p ≤ 2305843009213693952) : bits BinOp.and IntKind.i64 p 3 = p % 4:=by
 have:=and_mod 2 (by omega) p h.1 (by omega)
 simpa using this
theorem low2C (p : Int) (h : 0 ≤ p ∧ p ≤ 2305843009213693952) : PSpec Tryz.prog 153 [V.int p,V.int 2] (V.int (p % 4)):=by
 refine pspec tab_ok mix Tryz.func153 (by kernel_rfl) rfl rfl ?_
 (refine go ?_; try exact True.intro)
 rw [pow2]
 refine wrB (by omega) (go ?_)
 exact .same (by rw [← and_four p h];rfl)
theorem genC (p : Int) : PSpec Tryz.prog 80 [V.int p] (V.int (p / 4)):=by
 refine pspec tab_ok mix Tryz.func80 (by kernel_rfl) rfl rfl ?_
 (refine go ?_; try exact True.intro)
 refine callB (high2C p) (go ?_)
 exact .same rfl
theorem stateC (p : Int) (h : 0 ≤ p ∧ p ≤ 2305843009213693952) : PSpec Tryz.prog 81 [V.int p] (V.int (p % 4)):=by
 refine pspec tab_ok mix Tryz.func81 (by kernel_rfl) rfl rfl ?_
 (refine go ?_; try exact True.intro)
 refine callB (low2C p h) (go ?_)
 exact .same rfl
def hOk (h : Int) : Prop:=0 ≤ h ∧ h ≤ 70368744177727
instance (h : Int) : Decidable (hOk h):=by unfold hOk;infer_instance
def slotH (h : Int) : Int:=if hOk h then h % 64 else -1
def genH (h : Int) : Int:=if hOk h then h / 64 else -1
theorem rWordC (g s : Int) (h : (0 ≤ g ∧ g ≤ 2199023255552) ∧ 0 ≤ s ∧ s < 4) : PSpec Tryz.prog 111 [V.int g,V.int s] (V.int (4 * g + s)):=by
 refine pspec tab_ok mix Tryz.func111 (by kernel_rfl) rfl rfl ?_
 (refine go ?_; try exact True.intro)
 exact .same rfl
theorem rMakeC (s g : Int) (h : (0 ≤ g ∧ g ≤ 2199023255552) ∧ 0 ≤ s ∧ s < 64) : PSpec Tryz.prog 75 [V.int s,V.int g] (V.int (64 * g + s)):=by
 refine pspec tab_ok mix Tryz.func75 (by kernel_rfl) rfl rfl ?_
 (refine go ?_; try exact True.intro)
 exact .same rfl
theorem rGenC (p : Int) (h : 0 ≤ p ∧ p ≤ 9223372036854775807) : PSpec Tryz.prog 112 [V.int p] (V.int (p / 4)):=by
 refine pspec tab_ok mix Tryz.func112 (by kernel_rfl) rfl rfl ?_
 (refine go ?_; try exact True.intro)
 rw [Int.tdiv_eq_ediv_of_nonneg h.1]
 refine wrB (by omega) (go ?_)
 exact .same rfl
theorem rValidHC (h : Int) : PSpec Tryz.prog 168 [V.int h] (V.bool (decide (hOk h))):=by
 refine pspec tab_ok mix Tryz.func168 (by kernel_rfl) rfl rfl ?_
 (refine go ?_; try exact True.intro)
 refine br_dec (fun g=>?_) (fun g=>?_) <;> (refine go ?_; try exact True.intro)
 · exact .same (congrArg (fun z=>V.c (.bool z)) (decide_eq_decide.2 ⟨fun q=>⟨g,q⟩,fun q=>q.2⟩))
 · exact .same (congrArg (fun z=>V.c (.bool z)) (decide_eq_false fun q=>g q.1).symm)
theorem rSlotC (h : Int) : PSpec Tryz.prog 109 [V.int h] (V.int (slotH h)):=by
 refine pspec tab_ok mix Tryz.func109 (by kernel_rfl) rfl rfl ?_
 (refine go ?_; try exact True.intro)
 refine callB (rValidHC h) ?_
 unfold slotH
 by_cases g : hOk h
 · rw [if_pos g,decide_eq_true g]
   (refine go ?_; try exact True.intro)
   exact .same (by rw [Int.tmod_eq_emod_of_nonneg g.1])
 · rw [if_neg g,decide_eq_false g]
   (refine go ?_; try exact True.intro)
   exact .same rfl
structure Acc where
 th : Int
 kind : Int
 idx : Int
 old : Int
 new : Int
 ok : Bool
deriving DecidableEq
def Acc.row (a : Acc) : List D:=[.c (.int .i64 a.th),.c (.int .i64 a.kind),.c (.int .i64 a.idx),.c (.int .i64 a.old),.c (.int .i64 a.new),.c (.bool a.ok)]
def mtxRow (p : Bool × Int) : List D:=[.c (.bool p.1),.c (.int .i64 p.2)]
structure Mem where
 words : List Int
 mtx : List (Bool × Int)
 log : List Acc
 viol : Int
def memR (m : Mem) (l w x : Nat) : B:=.rows 4 [[.ac l 6 m.log.length,V.int m.viol,.ac w 1 m.words.length,.ac x 2 m.mtx.length]]
def logD (m : Mem) : B:=.dat 6 (m.log.map Acc.row)
def wordsD (m : Mem) : B:=.dat 1 (m.words.map intD)
def mtxD (m : Mem) : B:=.dat 2 (m.mtx.map mtxRow)
def memB (m : Mem) (l : Nat) : List (Nat × B):=[(0,memR m l 2 3),(l,logD m),(2,wordsD m),(3,mtxD m)]
def Mem.word (m : Mem) (i : Nat) : Int:=(m.words[i]?).getD 0
def Mem.held (m : Mem) (i : Nat) : Bool × Int:=(m.mtx[i]?).getD (false,0)
def Mem.addLog (m : Mem) (a : Acc) : Mem:={ m with log:=m.log ++ [a] }
def Mem.put (m : Mem) (th kind : Int) (i : Nat) (v : Int) (ok : Bool) : Mem:={ m with words:=m.words.set i v,log:=m.log ++ [⟨th,kind,i,m.word i,v,ok⟩] }
def Mem.load (m : Mem) (th : Int) (i : Nat) : Mem:=m.put th 1 i (m.word i) true
def Mem.store (m : Mem) (th : Int) (i : Nat) (v : Int) : Mem:=m.put th 4 i v true
def Mem.cas (m : Mem) (th : Int) (i : Nat) (o n : Int) : Mem × Bool:=if m.word i = o then (m.put th 3 i n true,true) else (m.put th 3 i (m.word i) false,false)
def Mem.lock (m : Mem) (th : Int) (i : Nat) : Mem × Bool:=
 if (m.held i).1 = true then ({ m with log:=m.log ++ [⟨th,5,i,1,1,false⟩] },false)
 else ({ m with mtx:=m.mtx.set i (true,th),log:=m.log ++ [⟨th,5,i,0,1,true⟩] },true)
def bitI (b : Bool) : Int:=if b = true then 1 else 0
def Mem.unlock (m : Mem) (th : Int) (i : Nat) : Mem × Bool:=
 if m.held i = (true,th) then ({ m with mtx:=m.mtx.set i (false,0),log:=m.log ++ [⟨th,6,i,1,0,true⟩] },true)
 else ({ m with log:=m.log ++ [⟨th,6,i,bitI (m.held i).1,bitI (m.held i).1,false⟩],viol:=m.viol + 1 },false)
def Mem.touch (m : Mem) (th : Int) (i : Nat) : Mem:=if m.held i = (true,th) then m else { m with viol:=m.viol + 1 }
structure Mem.Fits (m : Mem) : Prop where
 log : m.log.length < 1000000
 viol : 0 ≤ m.viol ∧ m.viol < 1000000000
 words : m.words.length < 1000000
 mtx : m.mtx.length < 1000000
theorem Mem.word_get {m : Mem} {i : Nat} (h : i < m.words.length) : m.words[i]? = some (m.word i):=by
 unfold Mem.word
 rw [List.getElem?_eq_getElem h];rfl
theorem Mem.held_get {m : Mem} {i : Nat} (h : i < m.mtx.length) : m.mtx[i]? = some (m.held i):=by
 unfold Mem.held
 rw [List.getElem?_eq_getElem h];rfl
theorem atW (m : Mem) (i : Nat) (h : i < m.words.length) (hf : m.Fits) : LSpec Tryz.prog 151 [.p 0 4 0 2,V.int i] (memB m 1) 4 (.p 2 1 i 0) (memB m 1) 4:=by
 have hw:=hf.words
 refine lspec tab_ok mix Tryz.func151 (by kernel_rfl) (by rfl) (by rfl) (by rfl) (by rfl) ?_
 (refine go ?_; try exact True.intro)
 rw [show decide ((i : Int) < 0) = false from decide_eq_false (by omega)]
 (refine go ?_; try exact True.intro)
 rw [show decide ((m.words.length : Int) ≤ i) = false from decide_eq_false (by omega)]
 (refine go ?_; try exact True.intro)
 refine atB h (go ?_)
 refine .mk [] (go ?_);try exact True.intro
theorem atX (m : Mem) (i : Nat) (h : i < m.mtx.length) (hw : m.mtx.length < 1000000) : LSpec Tryz.prog 122 [.p 0 4 0 3,V.int i] (memB m 1) 4 (.p 3 2 i 0) (memB m 1) 4:=by
 refine lspec tab_ok mix Tryz.func122 (by kernel_rfl) (by rfl) (by rfl) (by rfl) (by rfl) ?_
 (refine go ?_; try exact True.intro)
 rw [show decide ((i : Int) < 0) = false from decide_eq_false (by omega)]
 (refine go ?_; try exact True.intro)
 rw [show decide ((m.mtx.length : Int) ≤ i) = false from decide_eq_false (by omega)]
 (refine go ?_; try exact True.intro)
 refine atB h (go ?_)
 refine .mk [] (go ?_);try exact True.intro
theorem recordC (m : Mem) (hl : m.log.length < 1000000) (a : Acc) : LSpec Tryz.prog 149 [.p 0 4 0 0,V.int a.th,V.int a.kind,V.int a.idx,V.int a.old,V.int a.new,V.bool a.ok] (memB m 1) 4 (.tup []) (memB (m.addLog a) 4) 5:=by
 refine lspec tab_ok mix Tryz.func149 (by kernel_rfl) (by rfl) (by rfl) (by rfl) (by rfl) ?_
 (refine go ?_; try exact True.intro)
 refine .mk [(4,896)] (go ?_)
 refine cb (by simp [Mem.addLog]) (go ?_)
 refine cb (by simp [Mem.addLog,Acc.row]) (go ?_);try exact True.intro
theorem bitC (b : Bool) : PSpec Tryz.prog 150 [V.bool b] (V.int (bitI b)):=by
 refine pspec tab_ok mix Tryz.func150 (by kernel_rfl) rfl rfl ?_
 cases b
 · (refine go ?_; try exact True.intro)
   exact .same rfl
 · (refine go ?_; try exact True.intro)
   exact .same rfl
theorem wordAtC (m : Mem) (i : Nat) (h : i < m.words.length) (hf : m.Fits) : LSpec Tryz.prog 79 [.p 0 4 0 0,V.int i] (memB m 1) 4 (V.int (m.word i)) (memB m 1) 4:=by
 refine lspec tab_ok mix Tryz.func79 (by kernel_rfl) (by rfl) (by rfl) (by rfl) (by rfl) ?_
 (refine go ?_; try exact True.intro)
 refine callL (atW m i h hf) [some 0,some 1,some 2,some 3] [] rfl (go ?_)
 refine getB (Mem.word_get h) (go ?_)
 refine .mk [] (go ?_);try exact True.intro
theorem violC (m : Mem) : LSpec Tryz.prog 58 [.p 0 4 0 0] (memB m 1) 4 (V.int m.viol) (memB m 1) 4:=by
 refine lspec tab_ok mix Tryz.func58 (by kernel_rfl) (by rfl) (by rfl) (by rfl) (by rfl) ?_
 (refine go ?_; try exact True.intro)
 refine .mk [] (go ?_);try exact True.intro
theorem lockC (m : Mem) (th : Int) (i : Nat) (h : i < m.mtx.length) (hf : m.Fits) : LSpec Tryz.prog 86 [.p 0 4 0 0,V.int th,V.int i] (memB m 1) 4 (V.bool (m.lock th i).2) (memB (m.lock th i).1 4) 5:=by
 unfold Mem.lock
 have hg:=Mem.held_get h
 cases hh : (m.held i).1 with
 | true=>
  rw [if_pos rfl]
  refine lspec tab_ok mix Tryz.func86 (by kernel_rfl) (by rfl) (by rfl) (by rfl) (by rfl) ?_
  (refine go ?_; try exact True.intro)
  refine callL (atX m i h hf.mtx) [some 0,some 1,some 2,some 3] [] rfl (go ?_)
  refine getB hg ?_
  rw [show mtxRow (m.held i) = [.c (.bool true),.c (.int .i64 (m.held i).2)] by unfold mtxRow;rw [hh]]
  (refine go ?_; try exact True.intro)
  refine dcallB (bitC true) (go ?_)
  refine dcallL (recordC m hf.log ⟨th,5,i,1,1,false⟩) [some 0,some 1,some 2,some 3] [] (go ?_)
  refine .mk [(4,1664)] (go ?_);try exact True.intro
 | false=>
  rw [if_neg (by simp)]
  refine lspec tab_ok mix Tryz.func86 (by kernel_rfl) (by rfl) (by rfl) (by rfl) (by rfl) ?_
  (refine go ?_; try exact True.intro)
  refine callL (atX m i h hf.mtx) [some 0,some 1,some 2,some 3] [] rfl (go ?_)
  refine getB hg ?_
  rw [show mtxRow (m.held i) = [.c (.bool false),.c (.int .i64 (m.held i).2)] by unfold mtxRow;rw [hh]]
  (refine go ?_; try exact True.intro)
  refine getB hg ?_
  rw [show mtxRow (m.held i) = [.c (.bool false),.c (.int .i64 (m.held i).2)] by unfold mtxRow;rw [hh]]
  (refine go ?_; try exact True.intro)
  refine dcallB (bitC false) (go ?_)
  refine dcallL (recordC { m with mtx:=m.mtx.set i (true,th) } hf.log ⟨th,5,i,0,1,true⟩) [some 0,some 1,some 2,some 3] [] (go ?_)
  refine cb (by simp [mtxRow]) (go ?_)
  refine .mk [(4,1984)] (go ?_);try exact True.intro
theorem unlockC (m : Mem) (th : Int) (i : Nat) (h : i < m.mtx.length) (hf : m.Fits) : LSpec Tryz.prog 70 [.p 0 4 0 0,V.int th,V.int i] (memB m 1) 4 (V.bool (m.unlock th i).2) (memB (m.unlock th i).1 4) 5:=by
 unfold Mem.unlock
 have hg:=Mem.held_get h
 have hv:=hf.viol
 have hr : mtxRow (m.held i) = [.c (.bool (m.held i).1),.c (.int .i64 (m.held i).2)]:=rfl
 by_cases hh : m.held i = (true,th)
 · rw [if_pos hh]
   rw [hh] at hg
   refine lspec tab_ok mix Tryz.func70 (by kernel_rfl) (by rfl) (by rfl) (by rfl) (by rfl) ?_
   (refine go ?_; try exact True.intro)
   refine callL (atX m i h hf.mtx) [some 0,some 1,some 2,some 3] [] rfl (go ?_)
   refine getB hg (go ?_)
   refine getB hg (go ?_)
   refine eqB [false,true] (by kernel_rfl) rfl rfl rfl (go ?_)
   rw [show ((true,th).1 == true && (decide ((true,th).2 = th) && true)) = true by simp]
   (refine go ?_; try exact True.intro)
   refine getB hg (go ?_)
   refine dcallB (bitC true) (go ?_)
   refine getB_lit [.c (.bool false),.c (.int .i64 0)] (by simp [h]) (go ?_)
   refine dcallB (bitC false) (go ?_)
   refine dcallL (recordC { m with mtx:=m.mtx.set i (false,0) } hf.log ⟨th,6,i,1,0,true⟩) [some 0,some 1,some 2,some 3] [] (go ?_)
   refine cb (by simp [mtxRow]) (go ?_)
   refine .mk [(4,2560)] (go ?_);try exact True.intro
 · have hx : ((m.held i).1 == true && (decide ((m.held i).2 = th) && true)) = false:=by
    cases hb : (m.held i).1 with
    | false=>rfl
    | true=>
     have : (m.held i).2 ≠ th:=fun e=>hh (Prod.ext hb e)
     simp [this]
   rw [if_neg hh]
   refine lspec tab_ok mix Tryz.func70 (by kernel_rfl) (by rfl) (by rfl) (by rfl) (by rfl) ?_
   (refine go ?_; try exact True.intro)
   refine callL (atX m i h hf.mtx) [some 0,some 1,some 2,some 3] [] rfl (go ?_)
   refine getB hg (go ?_)
   refine getB hg (go ?_)
   refine eqB [false,true] (by kernel_rfl) rfl rfl rfl (go ?_)
   rw [hx]
   (refine go ?_; try exact True.intro)
   refine dcallB (bitC (m.held i).1) (go ?_)
   refine getB hg (go ?_)
   refine dcallB (bitC (m.held i).1) (go ?_)
   refine dcallL (recordC { m with viol:=m.viol + 1 } hf.log ⟨th,6,i,bitI (m.held i).1,bitI (m.held i).1,false⟩) [some 0,some 1,some 2,some 3] [] (go ?_)
   refine .mk [(4,2944)] (go ?_);try exact True.intro
theorem touchC (m : Mem) (th : Int) (i : Nat) (h : i < m.mtx.length) (hx : m.mtx.length < 1000000) (hv : 0 ≤ m.viol ∧ m.viol < 2000000000) : LSpec Tryz.prog 224 [.p 0 4 0 0,V.int th,V.int i] (memB m 1) 4 (V.bool (decide (m.held i = (true,th)))) (memB (m.touch th i) 1) 4:=by
 unfold Mem.touch
 have hg:=Mem.held_get h
 by_cases hh : m.held i = (true,th)
 · rw [if_pos hh,decide_eq_true hh]
   rw [hh] at hg
   refine lspec tab_ok mix Tryz.func224 (by kernel_rfl) (by rfl) (by rfl) (by rfl) (by rfl) ?_
   (refine go ?_; try exact True.intro)
   refine callL (atX m i h hx) [some 0,some 1,some 2,some 3] [] rfl (go ?_)
   refine getB hg (go ?_)
   refine eqB [false,true] (by kernel_rfl) rfl rfl rfl (go ?_)
   rw [show ((true,th).1 == true && (decide ((true,th).2 = th) && true)) = true by simp]
   (refine go ?_; try exact True.intro)
   refine .mk [] (go ?_);try exact True.intro
 · have hx' : ((m.held i).1 == true && (decide ((m.held i).2 = th) && true)) = false:=by
    cases hb : (m.held i).1 with
    | false=>rfl
    | true=>
     have : (m.held i).2 ≠ th:=fun e=>hh (Prod.ext hb e)
     simp [this]
   rw [if_neg hh,decide_eq_false hh]
   refine lspec tab_ok mix Tryz.func224 (by kernel_rfl) (by rfl) (by rfl) (by rfl) (by rfl) ?_
   (refine go ?_; try exact True.intro)
   refine callL (atX m i h hx) [some 0,some 1,some 2,some 3] [] rfl (go ?_)
   refine getB hg (go ?_)
   refine eqB [false,true] (by kernel_rfl) rfl rfl rfl (go ?_)
   rw [hx']
   (refine go ?_; try exact True.intro)
   refine .mk [] (go ?_);try exact True.intro
section
variable {P : Program} {tab : Tab}
theorem dmakeB (ht : TabOk P tab) {ty : TypeId} {l c : Operand} {t : List V} {h : List (Nat × B)} {b : Nat} {K : V → List (Nat × B) → Dyn → Prop} (n : Nat) (zr : List D) (ε : Ty) (hε : sliceElem tab ty = some ε) (hz : ZeroRow ε.zero zr) (hl : evS (tAt t) l = V.int n) (hc : evS (tAt t) c = V.int n)
 (hn : n < 2147483648) (hby : Nat.ble ε.bytes 4096 = true) (k : hSet h b (.dat ε.size (List.replicate n zr)) fun h=>K (.ac b ε.size n) h ⟨[],[],[b],false⟩) : DOpB P (.makeSlice ty l c) t h b K:=by
 obtain ⟨l',hk,e⟩:=hSet_of k
 refine ⟨_,.ac b ε.size n,[(b,some (.dat ε.size (List.replicate n zr)))],l',rfl,⟨by simp [namesU],by simp,fun h2 he M hf hb=>?_⟩,e,hk⟩
 exact makeSlice_aop (M:=M) ht (hf b (Nat.le_refl _) (by omega)) hε hl hc hn (Nat.le_of_ble_eq_true hby) hz ⟨rfl,rfl⟩
end
theorem load1C (v : Int) : PSpec Tryz.prog 223 [V.int v] (.tup [V.int v,V.bool true]):=by
 refine pspec tab_ok mix Tryz.func223 (by kernel_rfl) rfl rfl ?_
 (refine go ?_; try exact True.intro)
 exact .same rfl
theorem store1C (v x : Int) : LSpec Tryz.prog 225 [V.int x,.p 0 1 0 0] [(0,.rows 1 [[V.int v]])] 1 (.tup [V.int v,V.bool true]) [(0,.rows 1 [[V.int v]])] 1:=by
 refine lspec tab_ok mix Tryz.func225 (by kernel_rfl) (by rfl) (by rfl) (by rfl) (by rfl) ?_
 (refine go ?_; try exact True.intro)
 refine .mk [] (go ?_);try exact True.intro
theorem cas1C (o n x : Int) : LSpec Tryz.prog 205 [V.int x,.p 0 1 0 0,.p 1 1 0 0] [(0,.rows 1 [[V.int o]]),(1,.rows 1 [[V.int n]])] 2
 (.tup [V.int (if x = o then n else x),V.bool (decide (x = o))]) [(0,.rows 1 [[V.int o]]),(1,.rows 1 [[V.int n]])] 2:=by
 by_cases h : x = o
 · rw [if_pos h,decide_eq_true h]
   refine lspec tab_ok mix Tryz.func205 (by kernel_rfl) (by rfl) (by rfl) (by rfl) (by rfl) ?_
   (refine go ?_; try exact True.intro)
   rw [decide_eq_true h]
   (refine go ?_; try exact True.intro)
   refine .mk [] (go ?_);try exact True.intro
 · rw [if_neg h,decide_eq_false h]
   refine lspec tab_ok mix Tryz.func205 (by kernel_rfl) (by rfl) (by rfl) (by rfl) (by rfl) ?_
   (refine go ?_; try exact True.intro)
   rw [decide_eq_false h]
   (refine go ?_; try exact True.intro)
   refine .mk [] (go ?_);try exact True.intro
theorem updLoadC (m : Mem) (th : Int) (i : Nat) (h : i < m.words.length) (hf : m.Fits) :
 LSpec Tryz.prog 204 [.p 0 4 0 0,V.int th,V.int 1,V.int i,.fn (.func 223) [] []] (memB m 1) 4 (.tup [V.int (m.word i),V.bool true]) (memB (m.load th i) 4) 5:=by
 have hg:=Mem.word_get h
 refine lspec tab_ok mix Tryz.func204 (by kernel_rfl) (by rfl) (by rfl) (by rfl) (by rfl) ?_
 (refine go ?_; try exact True.intro)
 refine callL (atW m i h hf) [some 0,some 1,some 2,some 3] [] rfl (go ?_)
 refine getB hg (go ?_)
 refine callB (load1C (m.word i)) (go ?_)
 refine getB hg (go ?_)
 refine callL (recordC { m with words:=m.words.set i (m.word i) } hf.log ⟨th,1,i,m.word i,m.word i,true⟩) [some 0,some 1,some 2,some 3] [] rfl (go ?_)
 refine cb (by simp [intD]) (go ?_)
 refine .mk [(4,2304)] (go ?_);try exact True.intro
theorem updStoreC (m : Mem) (th : Int) (i : Nat) (v : Int) (h : i < m.words.length) (hf : m.Fits) :
 LSpec Tryz.prog 204 [.p 0 4 0 0,V.int th,V.int 4,V.int i,.fn (.func 225) [] [.p 4 1 0 0]] (memB m 1 ++ [(4,.rows 1 [[V.int v]])]) 5 (.tup [V.int v,V.bool true]) (memB (m.store th i v) 5) 6:=by
 have hg:=Mem.word_get h
 refine lspec tab_ok mix Tryz.func204 (by kernel_rfl) (by rfl) (by rfl) (by rfl) (by rfl) ?_
 (refine go ?_; try exact True.intro)
 refine callL (atW m i h hf) [some 0,some 1,some 2,some 3] [] rfl (go ?_)
 refine getB hg (go ?_)
 refine callL (store1C v (m.word i)) [some 4] [] rfl (go ?_)
 refine getB hg (go ?_)
 refine callL (recordC { m with words:=m.words.set i v } hf.log ⟨th,4,i,m.word i,v,true⟩) [some 0,some 1,some 2,some 3] [] rfl (go ?_)
 refine cb (by simp [intD]) (go ?_)
 refine .mk [(5,2304)] (go ?_);try exact True.intro
theorem updCasC (m : Mem) (th : Int) (i : Nat) (o n : Int) (h : i < m.words.length) (hf : m.Fits) :
 LSpec Tryz.prog 204 [.p 0 4 0 0,V.int th,V.int 3,V.int i,.fn (.func 205) [] [.p 4 1 0 0,.p 5 1 0 0]] (memB m 1 ++ [(4,.rows 1 [[V.int o]]),(5,.rows 1 [[V.int n]])]) 6
  (.tup [V.int (if m.word i = o then n else m.word i),V.bool (decide (m.word i = o))]) (memB (m.cas th i o n).1 6) 7:=by
 have hg:=Mem.word_get h
 have hc : (m.cas th i o n).1 = m.put th 3 i (if m.word i = o then n else m.word i) (decide (m.word i = o)):=by
  unfold Mem.cas
  split
  · next e=>rw [decide_eq_true e]
  · next e=>rw [decide_eq_false e]
 rw [hc]
 refine lspec tab_ok mix Tryz.func204 (by kernel_rfl) (by rfl) (by rfl) (by rfl) (by rfl) ?_
 (refine go ?_; try exact True.intro)
 refine callL (atW m i h hf) [some 0,some 1,some 2,some 3] [] rfl (go ?_)
 refine getB hg (go ?_)
 refine callL (cas1C o n (m.word i)) [some 4,some 5] [] rfl (go ?_)
 generalize (if m.word i = o then n else m.word i) = v
 refine getB hg (go ?_)
 refine callL (recordC { m with words:=m.words.set i v } hf.log ⟨th,3,i,m.word i,v,decide (m.word i = o)⟩) [some 0,some 1,some 2,some 3] [] rfl (go ?_)
 refine cb (by simp [intD]) (go ?_)
 refine .mk [(6,2304)] (go ?_);try exact True.intro
theorem loadC (m : Mem) (th : Int) (i : Nat) (h : i < m.words.length) (hf : m.Fits) : LSpec Tryz.prog 162 [.p 0 4 0 0,V.int th,V.int i] (memB m 1) 4 (V.int (m.word i)) (memB (m.load th i) 4) 5:=by
 refine lspec tab_ok mix Tryz.func162 (by kernel_rfl) (by rfl) (by rfl) (by rfl) (by rfl) ?_
 (refine go ?_; try exact True.intro)
 refine callL (updLoadC m th i h hf) [some 0,some 1,some 2,some 3] [] rfl (go ?_)
 refine .mk [(4,320)] (go ?_);try exact True.intro
theorem storeC (m : Mem) (th : Int) (i : Nat) (v : Int) (h : i < m.words.length) (hf : m.Fits) : LSpec Tryz.prog 164 [.p 0 4 0 0,V.int th,V.int i,V.int v] (memB m 1) 4 (.tup []) (memB (m.store th i v) 4) 5:=by
 refine lspec tab_ok mix Tryz.func164 (by kernel_rfl) (by rfl) (by rfl) (by rfl) (by rfl) ?_
 (refine go ?_; try exact True.intro)
 refine callL (updStoreC m th i v h hf) [some 0,some 1,some 2,some 3,some 64] [] rfl (go ?_)
 refine .mk [(4,384)] (go ?_);try exact True.intro
theorem casC (m : Mem) (th : Int) (i : Nat) (o n : Int) (h : i < m.words.length) (hf : m.Fits) : LSpec Tryz.prog 145 [.p 0 4 0 0,V.int th,V.int i,V.int o,V.int n] (memB m 1) 4 (V.bool (decide (m.word i = o))) (memB (m.cas th i o n).1 4) 5:=by
 refine lspec tab_ok mix Tryz.func145 (by kernel_rfl) (by rfl) (by rfl) (by rfl) (by rfl) ?_
 (refine go ?_; try exact True.intro)
 refine callL (updCasC m th i o n h hf) [some 0,some 1,some 2,some 3,some 64,some 128] [] rfl (go ?_)
 refine .mk [(4,512)] (go ?_);try exact True.intro
theorem new1C (n : Int) (h : 0 ≤ n ∧ n ≤ 256) : PSpec Tryz.prog 188 [V.int n] (V.bool true):=by
 refine pspec tab_ok mix Tryz.func188 (by kernel_rfl) rfl rfl ?_
 (refine go ?_; try exact True.intro)
 rw [decide_eq_true h.1]
 (refine go ?_; try exact True.intro)
 exact .same (congrArg (fun z=>V.c (.bool z)) (decide_eq_true h.2))
def mem0 (w x : Nat) : Mem:=⟨List.replicate w 0,List.replicate x (false,0),[],0⟩
theorem newMemC (w x : Nat) (hw : w ≤ 256) (hx : x ≤ 256) : LSpec Tryz.prog 124 [V.int w,V.int x] [] 0 (.p 0 4 0 0) (memB (mem0 w x) 1) 4:=by
 refine lspec tab_ok mix Tryz.func124 (by kernel_rfl) (by rfl) (by rfl) (by rfl) (by rfl) ?_
 (refine go ?_; try exact True.intro)
 refine callB (new1C w (by omega)) (go ?_)
 refine callB (new1C x (by omega)) (go ?_)
 refine dmakeB tab_ok w [.c (.int .i64 0)] _ rfl (.c _ rfl .nil) rfl rfl (by omega) rfl (go ?_)
 refine dmakeB tab_ok x [.c (.bool false),.c (.int .i64 0)] _ rfl (.c _ rfl (.c _ rfl .nil)) rfl rfl (by omega) rfl (go ?_)
 refine .mk [(0,1280),(1,1281),(2,896),(3,1088)] (go ?_)
 refine cb (by simp [mem0]) (go ?_)
 refine cb (by simp [mem0]) (go ?_)
 refine cb (by show _ = List.map intD (List.replicate w 0);rw [List.map_replicate];rfl) (go ?_)
 exact cb (by show _ = List.map mtxRow (List.replicate x (false,0));rw [List.map_replicate];rfl) (by (refine go ?_; try exact True.intro))
open Go.Proofs
set_option maxRecDepth 10000
set_option linter.unusedSimpArgs false
set_option linter.unusedVariables false
structure Slt where
 gen : Int
 state : Int
 time : Int
 seq : Int
deriving DecidableEq
def Slt.v (s : Slt) : V:=.agg [V.int s.gen,V.int s.state,V.int s.time,V.int s.seq]
def Slt.row (s : Slt) : List D:=[.c (.int .i64 s.gen),.c (.int .i64 s.state),.c (.int .i64 s.time),.c (.int .i64 s.seq)]
def sltsV (l : List Slt) : V:=.lst 4 (l.map Slt.row) false
structure Sto where
 m : Mem
 slots : List Slt
 idle : List Int
 next : Int
 q : Lad
def stoC (s : Sto) (a : Nat) : List V:=[.p a 4 0 0,sltsV s.slots,intsV s.idle,V.int s.next,V.int s.q.topStart,itemsV s.q.top,rngsV s.q.rungs,itemsV s.q.bottom,V.int s.q.moves,V.int s.q.compares]
def stoB (s : Sto) (l : Nat) : List (Nat × B):=[(0,.rows 10 [stoC s 1]),(1,memR s.m l 3 4),(l,logD s.m),(3,wordsD s.m),(4,mtxD s.m)]
structure Sto.Fits (s : Sto) : Prop where
 mem : s.m.Fits
 slots : s.slots.length < 1000000
 idle : s.idle.length < 1000000
 next : 0 ≤ s.next ∧ s.next < 1000000000
def Mem.touches (m : Mem) (th : Int) (l : List Nat) : Mem:=l.foldl (fun m i=>m.touch th i) m
theorem touch_same (m : Mem) (th : Int) (i : Nat) : (m.touch th i).words = m.words ∧ (m.touch th i).mtx = m.mtx ∧ (m.touch th i).log = m.log ∧ m.viol ≤ (m.touch th i).viol ∧ (m.touch th i).viol ≤ m.viol + 1:=by
 unfold Mem.touch;split
 · exact ⟨rfl,rfl,rfl,Int.le_refl _,by omega⟩
 · exact ⟨rfl,rfl,rfl,by dsimp only;omega,by dsimp only;omega⟩
theorem touches_same (th : Int) : ∀ (l : List Nat) (m : Mem),(m.touches th l).words = m.words ∧ (m.touches th l).mtx = m.mtx ∧ (m.touches th l).log = m.log ∧ m.viol ≤ (m.touches th l).viol ∧ (m.touches th l).viol ≤ m.viol + l.length
 | [],m=>⟨rfl,rfl,rfl,Int.le_refl _,by simp [Mem.touches]⟩
 | i :: l,m=>by
  obtain ⟨a1,a2,a3,a4,a5⟩:=touch_same m th i
  obtain ⟨b1,b2,b3,b4,b5⟩:=touches_same th l (m.touch th i)
  have e : m.touches th (i :: l) = (m.touch th i).touches th l:=rfl
  rw [e]
  exact ⟨b1.trans a1,b2.trans a2,b3.trans a3,by omega,by rw [List.length_cons];omega⟩
theorem cloneSlts (l : List Slt) (hl : l.length < 1073741824) : LSpec Tryz.prog 78 [sltsV l] [] 0 (.ac 0 4 l.length) [(0,.dat 4 (l.map Slt.row))] 1:=by
 refine lspec tab_ok mix Tryz.func78 (by kernel_rfl) (by rfl) (by rfl) (by rfl) (by rfl) ?_
 (refine go ?_; try exact True.intro)
 refine nilB ?_ ?_
 · (refine go ?_; try exact True.intro)
   refine .mk [(0,384)] (go ?_);try exact True.intro
 · intro h
   have h : l = []:=by simpa using h
   subst h
   (refine go ?_; try exact True.intro)
   refine .mk [(0,385)] (go ?_);try exact True.intro
theorem cloneInts (l : List Int) (hl : l.length < 1073741824) : LSpec Tryz.prog 198 [intsV l] [] 0 (.ac 0 1 l.length) [(0,.dat 1 (l.map intD))] 1:=by
 refine lspec tab_ok mix Tryz.func198 (by kernel_rfl) (by rfl) (by rfl) (by rfl) (by rfl) ?_
 (refine go ?_; try exact True.intro)
 refine nilB ?_ ?_
 · (refine go ?_; try exact True.intro)
   refine .mk [(0,384)] (go ?_);try exact True.intro
 · intro h
   have h : l = []:=by simpa using h
   subst h
   (refine go ?_; try exact True.intro)
   refine .mk [(0,385)] (go ?_);try exact True.intro
theorem memoryC (s : Sto) : LSpec Tryz.prog 15 [.p 0 10 0 0] (stoB s 2) 5 (.p 1 4 0 0) (stoB s 2) 5:=by
 refine lspec tab_ok mix Tryz.func15 (by kernel_rfl) (by rfl) (by rfl) (by rfl) (by rfl) ?_
 (refine go ?_; try exact True.intro)
 refine .mk [] (go ?_);try exact True.intro
def Sto.touch (s : Sto) (th : Int) (l : List Nat) : Sto:={ s with m:=s.m.touches th l }
theorem guardC (s : Sto) (th : Int) (l : List Nat) (hf : s.Fits) (hl : l.length < 10) (hi : ∀ i ∈ l,i < s.m.mtx.length) :
 LSpec Tryz.prog 163 [.p 0 10 0 0,V.int th,.lst 1 (l.map fun (i : Nat)=>[.c (.int .i64 i)]) false] (stoB s 2) 5 (.tup []) (stoB (s.touch th l) 2) 5:=by
 have h0 : s.m.touches th (l.take 0) = s.m:=rfl
 have hfm:=hf.mem
 refine lspec tab_ok mix Tryz.func163 (by kernel_rfl) (by rfl) (by rfl) (by rfl) (by rfl) ?_
 (refine go ?_; try exact True.intro)
 refine loopB tab_ok mix [0,1,8,9] [0,2,3,4] (fun k : Nat=>[(10,V.int k)]) (fun k=>[(1,memR (s.m.touches th (l.take k)) 2 3 4)]) (fun k=>k ≤ l.length) (fun k=>l.length - k) [] 0 rfl (by omega) (by rw [h0];(refine go ?_; try exact True.intro)) ?_
 rintro k hk
 (refine go ?_; try exact True.intro)
 obtain ⟨t1,t2,t3,t4,t5⟩:=touches_same th (l.take k) s.m
 have htl : (l.take k).length ≤ l.length:=by rw [List.length_take];omega
 have hfk : (s.m.touches th (l.take k)).words.length < 1000000 ∧ (s.m.touches th (l.take k)).mtx.length < 1000000:=by rw [t1,t2];exact ⟨hfm.words,hfm.mtx⟩
 refine br_dec (fun u=>?_) (fun u=>?_) <;> (refine go ?_; try exact True.intro)
 · have u' : k < l.length:=by simpa using u
   obtain ⟨i,hik⟩:=get_lt u'
   have hnx : s.m.touches th (l.take (k + 1)) = (s.m.touches th (l.take k)).touch th i:=by
    unfold Mem.touches;rw [List.take_add_one,hik,Option.toList_some,List.foldl_append];rfl
   obtain ⟨n1,n2,n3,_,_⟩:=touch_same (s.m.touches th (l.take k)) th i
   refine idxB hik (go ?_)
   refine callL (touchC (s.m.touches th (l.take k)) th i (by rw [t2];exact hi i (List.mem_of_getElem? hik)) hfk.2 (by have:=hfm.viol;omega)) [some 1,some 2,some 3,some 4] [] rfl (go ?_)
   refine cb (by rw [t3]) (go ?_)
   refine cb (by rw [t1]) (go ?_)
   refine cb (by rw [t2]) (go ?_)
   refine .mk [] (k + 1) (by omega) (by omega) ?_
   rw [hnx]
   (refine go ?_; try exact True.intro)
   refine cb (by rw [n3,t3]) (go ?_)
   refine cb (by rw [n1,t1]) (go ?_)
   refine cb (by rw [n2,t2]) (go ?_);try exact True.intro
 · have e : k = l.length:=by simp at u;omega
   subst e
   rw [List.take_length] at *
   refine .mk [] (go ?_)
   refine cb (by show _ = List.map Acc.row (s.m.touches th l).log;rw [t3]) (go ?_)
   refine cb (by show _ = List.map intD (s.m.touches th l).words;rw [t1]) (go ?_)
   refine cb (by show _ = List.map mtxRow (s.m.touches th l).mtx;rw [t2]) (go ?_);try exact True.intro
theorem setC (s : Sto) (i : Nat) (x : Slt) (h : i < s.slots.length) (hl : s.slots.length < 1000000) : LSpec Tryz.prog 166 [.p 0 10 0 0,V.int i,x.v] (stoB s 2) 5 (.tup []) (stoB { s with slots:=s.slots.set i x } 2) 5:=by
 refine lspec tab_ok mix Tryz.func166 (by kernel_rfl) (by rfl) (by rfl) (by rfl) (by rfl) ?_
 (refine go ?_; try exact True.intro)
 refine callL (cloneSlts s.slots (by omega)) [] [] rfl (go ?_)
 refine atB h (go ?_)
 refine getB (show s.slots[i]? = some s.slots[i] by simp [h]) (go ?_)
 refine .mk [] (go ?_)
 exact cb ⟨by simp,by rw [List.map_set];rfl⟩ (by (refine go ?_; try exact True.intro))
theorem generationAtC (s : Sto) (i : Nat) (h : i + 1 < s.m.words.length) (hf : s.m.Fits) : LSpec Tryz.prog 165 [.p 0 10 0 0,V.int i] (stoB s 2) 5 (V.int (s.m.word (i + 1) / 4)) (stoB s 2) 5:=by
 have hw:=hf.words
 refine lspec tab_ok mix Tryz.func165 (by kernel_rfl) (by rfl) (by rfl) (by rfl) (by rfl) ?_
 (refine go ?_; try exact True.intro)
 rw [show (1 + (i : Int)) = ((i + 1 : Nat) : Int) by omega]
 refine callL (wordAtC s.m (i + 1) h hf) [some 1,some 2,some 3,some 4] [] rfl (go ?_)
 refine callB (genC _) (go ?_)
 refine .mk [] (go ?_);try exact True.intro
def accB (r : Rng) (t : Int) : Bool:=decide (r.at r.cur ≤ t)
def accQ (q : Lad) (t : Int) : Bool:=q.rungs.any fun r=>accB r t
def timeBox (t : Int) : List (Nat × B):=[(0,.rows 1 [[V.int t]])]
theorem accepts1C (r : Rng) (t : Int) (hr : r.Fits) : LSpec Tryz.prog 240 [r.v,.p 0 1 0 0] (timeBox t) 1 (V.bool (accB r t)) (timeBox t) 1:=by
 refine lspec tab_ok mix Tryz.func240 (by kernel_rfl) (by rfl) (by rfl) (by rfl) (by rfl) ?_
 (refine go ?_; try exact True.intro)
 refine dcallB (currentC r hr) (go ?_)
 refine .mk [] (go ?_);try exact True.intro
def idxI : Option Nat → Int
 | some i=>i
 | none=>-1
theorem indexRngs (l : List Rng) (t : Int) (hr : ∀ r ∈ l,r.Fits) (hl : l.length < 1000000) :
 LSpec Tryz.prog 265 [rngsV l,.fn (.func 240) [] [.p 0 1 0 0]] (timeBox t) 1 (V.int (idxI (l.findIdx? fun r=>accB r t))) (timeBox t) 1:=by
 refine lspec tab_ok mix Tryz.func265 (by kernel_rfl) (by rfl) (by rfl) (by rfl) (by rfl) ?_
 (refine go ?_; try exact True.intro)
 refine loopB tab_ok mix [0,1,7] [0] (fun i : Nat=>[(8,V.int i)]) (fun i=>[]) (fun i=>i ≤ l.length ∧ ∀ r ∈ l.take i,accB r t = false) (fun i=>l.length - i) [] 0 rfl ⟨by omega,by simp⟩ (by (refine go ?_; try exact True.intro)) ?_
 rintro i ⟨h1,h2⟩
 (refine go ?_; try exact True.intro)
 refine br_dec (fun u=>?_) (fun u=>?_) <;> (refine go ?_; try exact True.intro)
 · have u' : i < l.length:=by simpa using u
   obtain ⟨r,hri⟩:=get_lt u'
   refine idxB hri (go ?_)
   refine callL (accepts1C r t (hr r (List.mem_of_getElem? hri))) [some 0] [] rfl (go ?_)
   refine brK_mk (fun e=>?_) (fun e=>?_) <;> (refine go ?_; try exact True.intro)
   · have hfi : l.findIdx? (fun r=>accB r t) = some i:=by
      rw [List.findIdx?_eq_some_iff_getElem]
      obtain ⟨hl',hx'⟩:=List.getElem?_eq_some_iff.1 hri
      refine ⟨hl',by rw [hx'];exact e,fun j hj=>?_⟩
      have:=h2 l[j] (List.mem_take_iff_getElem.2 ⟨j,by omega,rfl⟩)
      simpa using this
     rw [hfi]
     refine .mk [] (go ?_);try exact True.intro
   · refine .mk [] (i + 1) ⟨by omega,?_⟩ (by omega) ?_
     · rw [List.take_add_one,hri]
       intro y hy
       rcases List.mem_append.1 hy with hy | hy
       · exact h2 y hy
       · simp at hy;subst hy;exact e
     · (refine go ?_; try exact True.intro)
 · have e : i = l.length:=by simp at u;omega
   subst e
   rw [List.take_length] at h2
   have hfi : l.findIdx? (fun r=>accB r t) = none:=List.findIdx?_eq_none_iff.2 fun x hx=>h2 x hx
   rw [hfi]
   refine .mk [] (go ?_);try exact True.intro
theorem idxI_ge {l : List Rng} {p : Rng → Bool} : decide (0 ≤ idxI (l.findIdx? p)) = l.any p:=by
 cases h : l.findIdx? p with
 | none=>
  have h':=List.findIdx?_eq_none_iff.1 h
  have e : l.any p = false:=by rw [List.any_eq_false];intro x hx;rw [h' x hx];simp
  rw [e];rfl
 | some i=>
  obtain ⟨hl,h1,_⟩:=List.findIdx?_eq_some_iff_getElem.1 h
  have e : l.any p = true:=List.any_eq_true.2 ⟨l[i],List.getElem_mem hl,h1⟩
  rw [e];exact decide_eq_true (show (0 : Int) ≤ (i : Int) by omega)
theorem containsRngs (l : List Rng) (t : Int) (hr : ∀ r ∈ l,r.Fits) (hl : l.length < 1000000) :
 LSpec Tryz.prog 239 [rngsV l,.fn (.func 240) [] [.p 0 1 0 0]] (timeBox t) 1 (V.bool (l.any fun r=>accB r t)) (timeBox t) 1:=by
 refine lspec tab_ok mix Tryz.func239 (by kernel_rfl) (by rfl) (by rfl) (by rfl) (by rfl) ?_
 (refine go ?_; try exact True.intro)
 refine callL (indexRngs l t hr hl) [some 0] [] rfl (go ?_)
 rw [idxI_ge]
 refine .mk [] (go ?_);try exact True.intro
theorem acceptsInC (s : Sto) (t : Int) (hr : ∀ r ∈ s.q.rungs,r.Fits) (hl : s.q.rungs.length < 1000000) : LSpec Tryz.prog 199 [.p 0 10 0 0,V.int t] (stoB s 2) 5 (V.bool (accQ s.q t)) (stoB s 2) 5:=by
 refine lspec tab_ok mix Tryz.func199 (by kernel_rfl) (by rfl) (by rfl) (by rfl) (by rfl) ?_
 (refine go ?_; try exact True.intro)
 refine callL (containsRngs s.q.rungs t hr hl) [some 64] [] rfl (go ?_)
 refine .mk [] (go ?_);try exact True.intro
theorem Sto.touch_fits {s : Sto} (hf : s.Fits) (th : Int) (l : List Nat) (hv : s.m.viol + l.length < 1000000000) : (s.touch th l).Fits:=by
 obtain ⟨t1,t2,t3,t4,t5⟩:=touches_same th l s.m
 have:=hf.mem.viol
 exact ⟨⟨by show (s.m.touches th l).log.length < _;rw [t3];exact hf.mem.log,by show 0 ≤ (s.m.touches th l).viol ∧ (s.m.touches th l).viol < _;omega,by show (s.m.touches th l).words.length < _;rw [t1];exact hf.mem.words,by show (s.m.touches th l).mtx.length < _;rw [t2];exact hf.mem.mtx⟩,hf.slots,hf.idle,hf.next⟩
def Sto.accepts (s : Sto) (th t : Int) : Sto × Bool:=(s.touch th [1],accQ s.q t)
def Sto.replace (s : Sto) (th : Int) (q : Lad) : Sto:={ s with m:=if q.topStart = s.q.topStart then s.m else s.m.store th 0 q.topStart,q:=q }
theorem replaceQC (s : Sto) (th : Int) (q : Lad) (hf : s.Fits) (hw : 0 < s.m.words.length) : LSpec Tryz.prog 248 [.p 0 10 0 0,V.int th,q.v] (stoB s 2) 5 (.tup []) (stoB (s.replace th q) 5) 6:=by
 unfold Sto.replace
 by_cases h : q.topStart = s.q.topStart
 · rw [if_pos h]
   refine lspec tab_ok mix Tryz.func248 (by kernel_rfl) (by rfl) (by rfl) (by rfl) (by rfl) ?_
   (refine go ?_; try exact True.intro)
   rw [show (!decide (q.topStart = s.q.topStart)) = false by simp [h]]
   (refine go ?_; try exact True.intro)
   refine .mk [(5,2)] (go ?_);try exact True.intro
 · rw [if_neg h]
   refine lspec tab_ok mix Tryz.func248 (by kernel_rfl) (by rfl) (by rfl) (by rfl) (by rfl) ?_
   (refine go ?_; try exact True.intro)
   rw [show (!decide (q.topStart = s.q.topStart)) = true by simp [h]]
   (refine go ?_; try exact True.intro)
   refine dcallL (storeC s.m th 0 q.topStart hw hf.mem) [some 1,some 2,some 3,some 4] [] (go ?_)
   refine .mk [(5,1088)] (go ?_);try exact True.intro
def Sto.take (s : Sto) (th : Int) (q : Lad) : Sto:=(s.touch th [0,1,2]).replace th q
theorem takeC (s : Sto) (th : Int) {f : FuncId} {q : Lad} {it : Item} {ok : Bool} (hq : PSpec Tryz.prog f [s.q.v] (.tup [q.v,it.v,V.bool ok])) (hf : s.Fits) (hv : s.m.viol < 100000000) (hm : 4 ≤ s.m.mtx.length) (hw : 0 < s.m.words.length) :
 LSpec Tryz.prog 201 [.p 0 10 0 0,V.int th,.fn (.func f) [] []] (stoB s 2) 5 (.tup [it.v,V.bool ok]) (stoB (s.take th q) 5) 6:=by
 have hf1:=Sto.touch_fits hf th [0,1,2] (by simp;omega)
 have ht:=touches_same th [0,1,2] s.m
 refine lspec tab_ok mix Tryz.func201 (by kernel_rfl) (by rfl) (by rfl) (by rfl) (by rfl) ?_
 (refine go ?_; try exact True.intro)
 refine callL (guardC s th [0,1,2] hf (by decide) (by simp <;> omega)) [some 0,some 1,some 2,some 3,some 4] [] rfl (go ?_)
 refine callB hq (go ?_)
 refine callL (replaceQC (s.touch th [0,1,2]) th q hf1 (by show 0 < (s.m.touches th [0,1,2]).words.length;rw [ht.1];exact hw)) [some 0,some 1,some 2,some 3,some 4] [] rfl (go ?_)
 refine .mk [(5,1600)] (go ?_);try exact True.intro
theorem peekSC (s : Sto) (th : Int) {q : Lad} {it : Item} {ok : Bool} (hq : PSpec Tryz.prog 202 [s.q.v] (.tup [q.v,it.v,V.bool ok])) (hf : s.Fits) (hv : s.m.viol < 100000000) (hm : 4 ≤ s.m.mtx.length) (hw : 0 < s.m.words.length) :
 LSpec Tryz.prog 143 [.p 0 10 0 0,V.int th] (stoB s 2) 5 (.tup [it.v,V.bool ok]) (stoB (s.take th q) 5) 6:=by
 refine lspec tab_ok mix Tryz.func143 (by kernel_rfl) (by rfl) (by rfl) (by rfl) (by rfl) ?_
 (refine go ?_; try exact True.intro)
 refine callL (takeC s th hq hf hv hm hw) [some 0,some 1,some 2,some 3,some 4] [] rfl (go ?_)
 refine .mk [(5,320)] (go ?_);try exact True.intro
theorem dropSC (s : Sto) (th : Int) {q : Lad} {it : Item} {ok : Bool} (hq : PSpec Tryz.prog 203 [s.q.v] (.tup [q.v,it.v,V.bool ok])) (hf : s.Fits) (hv : s.m.viol < 100000000) (hm : 4 ≤ s.m.mtx.length) (hw : 0 < s.m.words.length) :
 LSpec Tryz.prog 144 [.p 0 10 0 0,V.int th] (stoB s 2) 5 (.tup []) (stoB (s.take th q) 5) 6:=by
 refine lspec tab_ok mix Tryz.func144 (by kernel_rfl) (by rfl) (by rfl) (by rfl) (by rfl) ?_
 (refine go ?_; try exact True.intro)
 refine callL (takeC s th hq hf hv hm hw) [some 0,some 1,some 2,some 3,some 4] [] rfl (go ?_)
 refine .mk [(5,192)] (go ?_);try exact True.intro
def Sto.slot (s : Sto) (i : Nat) : Slt:=(s.slots[i]?).getD ⟨0,0,0,0⟩
theorem Sto.slot_get {s : Sto} {i : Nat} (h : i < s.slots.length) : s.slots[i]? = some (s.slot i):=by
 unfold Sto.slot
 rw [List.getElem?_eq_getElem h];rfl
def Sto.putL (s : Sto) (t : Int) : List Nat:=if s.q.topStart ≤ t then [0] else if accQ s.q t = true then [1] else [1,2]
def Sto.item (s : Sto) (i : Nat) : Item:=⟨(s.slot i).time,(s.slot i).seq,i⟩
def Sto.put (s : Sto) (th : Int) (i : Nat) : Sto:={ s.touch th (s.putL (s.slot i).time) with q:=insLad s.q (s.item i) }
theorem putSC (s : Sto) (th : Int) (i : Nat) (h : i < s.slots.length) (hf : s.Fits) (hv : s.m.viol < 100000000) (hm : 4 ≤ s.m.mtx.length) (hr : ∀ r ∈ s.q.rungs,r.Fits) (hl : s.q.rungs.length < 1000000)
 (hq : PSpec Tryz.prog 200 [s.q.v,(s.item i).v] ((insLad s.q (s.item i)).v)) :
 LSpec Tryz.prog 142 [.p 0 10 0 0,V.int th,V.int i] (stoB s 2) 5 (.tup []) (stoB (s.put th i) 2) 5:=by
 have hg:=Sto.slot_get h
 unfold Sto.put Sto.putL
 by_cases g : s.q.topStart ≤ (s.slot i).time
 · rw [if_pos g]
   refine lspec tab_ok mix Tryz.func142 (by kernel_rfl) (by rfl) (by rfl) (by rfl) (by rfl) ?_
   (refine go ?_; try exact True.intro)
   refine idxB hg (go ?_)
   rw [decide_eq_true g]
   (refine go ?_; try exact True.intro)
   refine callL (guardC s th [0] hf (by decide) (by simp <;> omega)) [some 0,some 1,some 2,some 3,some 4] [] rfl (go ?_)
   refine dcallB hq (go ?_)
   refine .mk [] (go ?_);try exact True.intro
 · rw [if_neg g]
   cases hx : accQ s.q (s.slot i).time with
   | true=>
    rw [if_pos rfl]
    refine lspec tab_ok mix Tryz.func142 (by kernel_rfl) (by rfl) (by rfl) (by rfl) (by rfl) ?_
    (refine go ?_; try exact True.intro)
    refine idxB hg (go ?_)
    rw [decide_eq_false g]
    (refine go ?_; try exact True.intro)
    refine callL (acceptsInC s (s.slot i).time hr hl) [some 0,some 1,some 2,some 3,some 4] [] rfl (go ?_)
    rw [hx]
    (refine go ?_; try exact True.intro)
    refine callL (guardC s th [1] hf (by decide) (by simp <;> omega)) [some 0,some 1,some 2,some 3,some 4] [] rfl (go ?_)
    refine dcallB hq (go ?_)
    refine .mk [] (go ?_);try exact True.intro
   | false=>
    rw [if_neg (by simp)]
    refine lspec tab_ok mix Tryz.func142 (by kernel_rfl) (by rfl) (by rfl) (by rfl) (by rfl) ?_
    (refine go ?_; try exact True.intro)
    refine idxB hg (go ?_)
    rw [decide_eq_false g]
    (refine go ?_; try exact True.intro)
    refine callL (acceptsInC s (s.slot i).time hr hl) [some 0,some 1,some 2,some 3,some 4] [] rfl (go ?_)
    rw [hx]
    (refine go ?_; try exact True.intro)
    refine callL (guardC s th [1,2] hf (by decide) (by simp <;> omega)) [some 0,some 1,some 2,some 3,some 4] [] rfl (go ?_)
    refine dcallB hq (go ?_)
    refine .mk [] (go ?_);try exact True.intro
def Sto.alloc1 (s : Sto) (th t : Int) (idle : List Int) (i : Nat) : Sto:=
 { s with m:=s.m.store th (i + 1) (4 * (s.m.word (i + 1) / 4) + 1),slots:=s.slots.set i ⟨0,0,t,s.next⟩,idle:=idle,next:=s.next + 1 }
theorem allocNo (s : Sto) (th t : Int) (h : s.idle = []) (hf : s.Fits) (hm : 4 ≤ s.m.mtx.length) : LSpec Tryz.prog 140 [.p 0 10 0 0,V.int th,V.int t] (stoB s 2) 5 (.tup [V.int 0,V.bool false]) (stoB (s.touch th [3]) 5) 6:=by
 have h1 : (s.touch th [3]).idle = []:=h
 refine lspec tab_ok mix Tryz.func140 (by kernel_rfl) (by rfl) (by rfl) (by rfl) (by rfl) ?_
 (refine go ?_; try exact True.intro)
 refine callL (guardC s th [3] hf (by decide) (by simp <;> omega)) [some 0,some 1,some 2,some 3,some 4] [] rfl ?_
 generalize s.touch th [3] = s1 at *
 (refine go ?_; try exact True.intro)
 rw [show decide (((s1.idle.map intD).length : Int) = 0) = true from decide_eq_true (by rw [h1];rfl)]
 (refine go ?_; try exact True.intro)
 refine .mk [(5,2)] (go ?_);try exact True.intro
theorem allocC (s : Sto) (th t : Int) (l : List Int) (i : Nat) (h : s.idle = l ++ [(i : Int)]) (hf : s.Fits) (hv : s.m.viol < 100000000) (hm : 4 ≤ s.m.mtx.length) (hi : i < s.slots.length) (hw : i + 1 < s.m.words.length) (h64 : i < 64)
 (hg : 0 ≤ s.m.word (i + 1) / 4 ∧ s.m.word (i + 1) / 4 ≤ 1099511627776) :
 LSpec Tryz.prog 140 [.p 0 10 0 0,V.int th,V.int t] (stoB s 2) 5 (.tup [V.int (64 * (s.m.word (i + 1) / 4) + i),V.bool true]) (stoB ((s.touch th [3]).alloc1 th t l i) 5) 6:=by
 have hf1:=Sto.touch_fits hf th [3] (by simp;omega)
 obtain ⟨t1,t2,t3,t4,t5⟩:=touches_same th [3] s.m
 have h1 : (s.touch th [3]).idle = l ++ [(i : Int)]:=h
 have hi1 : i < (s.touch th [3]).slots.length:=hi
 have hw1 : i + 1 < (s.touch th [3]).m.words.length:=by show i + 1 < (s.m.touches th [3]).words.length;rw [t1];exact hw
 have hwd : s.m.word (i + 1) = (s.touch th [3]).m.word (i + 1):=by
  show (s.m.words[i + 1]?).getD 0 = ((s.m.touches th [3]).words[i + 1]?).getD 0
  rw [t1]
 have hg1:=guardC s th [3] hf (by decide) (by simp <;> omega)
 rw [hwd] at hg ⊢
 clear t1 t2 t3 t4 t5 hwd hi hw h
 generalize s.touch th [3] = s1 at *
 have hid:=hf1.idle
 have hnx:=hf1.next
 have hget : s1.idle[l.length]? = some (i : Int):=by rw [h1];simp
 have hlen : s1.idle.length = l.length + 1:=by rw [h1];simp
 refine lspec tab_ok mix Tryz.func140 (by kernel_rfl) (by rfl) (by rfl) (by rfl) (by rfl) ?_
 (refine go ?_; try exact True.intro)
 refine callL hg1 [some 0,some 1,some 2,some 3,some 4] [] rfl (go ?_)
 rw [show decide (((s1.idle.map intD).length : Int) = 0) = false from decide_eq_false (by simp only [List.length_map];omega)]
 (refine go ?_; try exact True.intro)
 refine wrB (by simp only [List.length_map];omega) (go ?_)
 refine idxB_eq l.length i (by simp only [List.length_map];omega) hget (go ?_)
 refine wrB (by simp only [List.length_map];omega) (go ?_)
 refine slB 0 l.length rfl (by show _ = _;simp only [List.length_map];omega) (by simp only [List.length_map];omega) ?_
 rw [show ((s1.idle.map intD).drop 0).take (l.length - 0) = l.map intD by rw [h1];simp]
 (refine go ?_; try exact True.intro)
 refine callL (cloneInts l (by omega)) [] [] rfl (go ?_)
 refine callL (setC { s1 with idle:=l } i ⟨0,0,t,s1.next⟩ hi1 hf1.slots) [some 0,some 1,some 2,some 3,some 4] [2240] rfl (go ?_)
 refine wrB (by show -9223372036854775808 ≤ s1.next + 1 ∧ s1.next + 1 ≤ 9223372036854775807;omega) (go ?_)
 refine callL (generationAtC { s1 with idle:=l,slots:=s1.slots.set i ⟨0,0,t,s1.next⟩,next:=s1.next + 1 } i hw1 hf1.mem) [some 0,some 1,some 2,some 3,some 4] [] rfl (go ?_)
 refine dcallB (wordC (s1.m.word (i + 1) / 4) 1 ⟨⟨hg.1,by have:=hg.2;omega⟩,by omega⟩) (go ?_)
 rw [show (1 + (i : Int)) = ((i + 1 : Nat) : Int) by omega]
 refine dcallL (storeC s1.m th (i + 1) (4 * (s1.m.word (i + 1) / 4) + 1) hw1 hf1.mem) [some 1,some 2,some 3,some 4] [] (go ?_)
 refine callB (makeC i (s1.m.word (i + 1) / 4) ⟨⟨hg.1,by have:=hg.2;omega⟩,by omega⟩) (go ?_)
 refine .mk [(5,4672)] (go ?_);try exact True.intro
theorem clipIntsC (l : List Int) : PSpec Tryz.prog 167 [intsV l] (.lst 1 (l.map intD) true):=by
 refine pspec tab_ok mix Tryz.func167 (by kernel_rfl) rfl rfl ?_
 (refine go ?_; try exact True.intro)
 refine slB 0 l.length rfl (by simp [isHi]) (by simp) (go ?_)
 exact .same (by rw [List.take_of_length_le (by simp)];rfl)
def Sto.free1 (s : Sto) (th : Int) (i : Nat) : Sto:=
 { s with m:=s.m.store th (i + 1) (4 * (s.m.word (i + 1) / 4 + 1) + 0),slots:=s.slots.set i ⟨0,0,0,0⟩,idle:=s.idle ++ [(i : Int)] }
theorem freeC (s : Sto) (th : Int) (i : Nat) (hf : s.Fits) (hv : s.m.viol < 100000000) (hm : 4 ≤ s.m.mtx.length) (hi : i < s.slots.length) (hw : i + 1 < s.m.words.length)
 (hg : 0 ≤ s.m.word (i + 1) / 4 ∧ s.m.word (i + 1) / 4 ≤ 1099511627776) :
 LSpec Tryz.prog 89 [.p 0 10 0 0,V.int th,V.int i] (stoB s 2) 5 (.tup []) (stoB ((s.touch th [3]).free1 th i) 5) 6:=by
 have hf1:=Sto.touch_fits hf th [3] (by simp;omega)
 obtain ⟨t1,t2,t3,t4,t5⟩:=touches_same th [3] s.m
 have hi1 : i < (s.touch th [3]).slots.length:=hi
 have hw1 : i + 1 < (s.touch th [3]).m.words.length:=by show i + 1 < (s.m.touches th [3]).words.length;rw [t1];exact hw
 have hwd : s.m.word (i + 1) = (s.touch th [3]).m.word (i + 1):=by
  show (s.m.words[i + 1]?).getD 0 = ((s.m.touches th [3]).words[i + 1]?).getD 0
  rw [t1]
 have hg1:=guardC s th [3] hf (by decide) (by simp <;> omega)
 rw [hwd] at hg
 clear t1 t2 t3 t4 t5 hwd hi hw
 generalize s.touch th [3] = s1 at *
 have hid:=hf1.idle
 have hsl:=hf1.slots
 refine lspec tab_ok mix Tryz.func89 (by kernel_rfl) (by rfl) (by rfl) (by rfl) (by rfl) ?_
 (refine go ?_; try exact True.intro)
 refine callL hg1 [some 0,some 1,some 2,some 3,some 4] [] rfl (go ?_)
 refine dcallR (generationAtC s1 i hw1 hf1.mem) [some 0,some 1,some 2,some 3,some 4] rfl rfl (go ?_)
 refine dcallB (wordC (s1.m.word (i + 1) / 4 + 1) 0 ⟨⟨by omega,by have:=hg.2;omega⟩,by omega⟩) (go ?_)
 rw [show (1 + (i : Int)) = ((i + 1 : Nat) : Int) by omega]
 refine dcallL (storeC s1.m th (i + 1) (4 * (s1.m.word (i + 1) / 4 + 1) + 0) hw1 hf1.mem) [some 1,some 2,some 3,some 4] [] (go ?_)
 refine callL (setC { s1 with m:=s1.m.store th (i + 1) (4 * (s1.m.word (i + 1) / 4 + 1) + 0) } i ⟨0,0,0,0⟩ hi1 hsl) [some 0,some 1,some 1088,some 3,some 4] [] rfl (go ?_)
 refine callB (clipIntsC s1.idle) (go ?_)
 refine .mk [(5,1088)] (go ?_)
 exact cb ⟨by simp [Sto.free1],by simp [Sto.free1,intD]⟩ (by (refine go ?_; try exact True.intro))
def revK (l : List Int) (k : Nat) : List Int:=(List.range l.length).map fun p=>if p < k ∨ l.length ≤ p + k then (l[l.length - 1 - p]?).getD 0 else (l[p]?).getD 0
theorem revK_len (l : List Int) (k : Nat) : (revK l k).length = l.length:=by simp [revK]
theorem revK_get (l : List Int) (k : Nat) {p : Nat} (h : p < l.length) : (revK l k)[p]? = some (if p < k ∨ l.length ≤ p + k then (l[l.length - 1 - p]?).getD 0 else (l[p]?).getD 0):=by
 unfold revK
 rw [List.getElem?_map,List.getElem?_range h];rfl
theorem revK_zero (l : List Int) : revK l 0 = l:=by
 apply List.ext_getElem?
 intro p
 by_cases h : p < l.length
 · rw [revK_get l 0 h,if_neg (by omega),List.getElem?_eq_getElem h];rfl
 · rw [List.getElem?_eq_none (by rw [revK_len];omega),List.getElem?_eq_none (by omega)]
theorem revK_end (l : List Int) {k : Nat} (h : l.length ≤ 2 * k + 1) : revK l k = l.reverse:=by
 apply List.ext_getElem?
 intro p
 by_cases hp : p < l.length
 · rw [revK_get l k hp,List.getElem?_reverse hp]
   have h1 : (l[l.length - 1 - p]?).getD 0 = l[l.length - 1 - p]'(by omega):=by rw [List.getElem?_eq_getElem (by omega)];rfl
   by_cases c : p < k ∨ l.length ≤ p + k
   · rw [if_pos c,h1,List.getElem?_eq_getElem (by omega)]
   · rw [if_neg c]
     have e : l.length - 1 - p = p:=by omega
     rw [e,List.getElem?_eq_getElem hp];rfl
 · rw [List.getElem?_eq_none (by rw [revK_len];omega),List.getElem?_eq_none (by rw [List.length_reverse];omega)]
theorem revK_next (l : List Int) {k : Nat} (h : 2 * k + 1 < l.length) :
 ((revK l k).set k ((l[l.length - 1 - k]?).getD 0)).set (l.length - 1 - k) ((l[k]?).getD 0) = revK l (k + 1):=by
 apply List.ext_getElem?
 intro p
 by_cases hp : p < l.length
 · rw [revK_get l (k + 1) hp,List.getElem?_set,List.getElem?_set,List.length_set,revK_len,revK_get l k hp]
   by_cases h1 : l.length - 1 - k = p
   · rw [if_pos h1,if_pos (by omega),if_pos (by omega),show l.length - 1 - p = k by omega]
   · rw [if_neg h1]
     by_cases h2 : k = p
     · rw [if_pos h2,if_pos (by omega),if_pos (by omega),h2]
     · rw [if_neg h2]
       by_cases c : p < k ∨ l.length ≤ p + k
       · rw [if_pos c,if_pos (by omega)]
       · rw [if_neg c,if_neg (by omega)]
 · rw [List.getElem?_eq_none (by simp [revK_len];omega),List.getElem?_eq_none (by rw [revK_len];omega)]
theorem reverseC (l : List Int) (hl : l.length < 1000000) : LSpec Tryz.prog 187 [.ac 0 1 l.length] [(0,.dat 1 (l.map intD))] 1 (.tup []) [(0,.dat 1 (l.reverse.map intD))] 1:=by
 have h0:=revK_zero l
 refine lspec tab_ok mix Tryz.func187 (by kernel_rfl) (by rfl) (by rfl) (by rfl) (by rfl) ?_
 (refine go ?_; try exact True.intro)
 refine loopB tab_ok mix [0] [] (fun k : Nat=>[(2,V.int k),(3,V.int ((l.length : Int) - 1 - k))]) (fun k=>[(0,.dat 1 ((revK l k).map intD))]) (fun k=>2 * k ≤ l.length + 1) (fun k=>l.length + 1 - k) [] 0 rfl (by omega) (by rw [h0];(refine go ?_; try exact True.intro)) ?_
 rintro k hk
 (refine go ?_; try exact True.intro)
 refine br_dec (fun u=>?_) (fun u=>?_) <;> (refine go ?_; try exact True.intro)
 · have u' : 2 * k + 1 < l.length:=by omega
   have hj : l.length - 1 - k < (revK l k).length:=by rw [revK_len];omega
   have gj : (revK l k)[l.length - 1 - k]? = some ((l[l.length - 1 - k]?).getD 0):=by rw [revK_get l k (by omega),if_neg (by omega)]
   have gk : (revK l k)[k]? = some ((l[k]?).getD 0):=by rw [revK_get l k (by omega),if_neg (by omega)]
   have hnx:=revK_next l u'
   generalize (l[l.length - 1 - k]?).getD 0 = x at *
   generalize (l[k]?).getD 0 = y at *
   refine atB_eq (l.length - 1 - k) (by omega) (by omega) (go ?_)
   refine getB gj (go ?_)
   refine atB (show k < l.length by omega) (go ?_)
   refine getB gk (go ?_)
   refine atB (show k < l.length by omega) (go ?_)
   refine getB_lit (intD y) (by simp [gk]) (go ?_)
   refine atB_eq (l.length - 1 - k) (by omega) (by omega) (go ?_)
   refine getB_lit (intD x) ?_ ?_
   · rw [List.getElem?_set_ne (by omega),List.getElem?_map,gj];rfl
   (refine go ?_; try exact True.intro)
   refine .mk [] (k + 1) (by omega) (by omega) ?_
   rw [← hnx]
   (refine go ?_; try exact True.intro)
   exact cb (by rw [List.map_set,List.map_set];rfl) (by (refine go ?_; try exact True.intro))
 · refine .mk [] (go ?_)
   exact cb (by rw [revK_end l (by omega)]) (by (refine go ?_; try exact True.intro))
def idle0 (n : Nat) : List Int:=((List.range n).map fun i : Nat=>(i : Int)).reverse
def upTo (i : Nat) : List Int:=(List.range i).map fun k : Nat=>(k : Int)
def slt0 : Slt:=⟨0,0,0,0⟩
theorem newArenaC (n : Nat) (h : 1 ≤ n ∧ n ≤ 64) : PSpec Tryz.prog 123 [V.int n] (.tup [.agg [sltsV (List.replicate n slt0),intsV (idle0 n),V.int 0],V.int 0]):=by
 refine pspec tab_ok mix Tryz.func123 (by kernel_rfl) rfl rfl ?_
 (refine go ?_; try exact True.intro)
 rw [show decide ((n : Int) < 1) = false from decide_eq_false (by omega)]
 (refine go ?_; try exact True.intro)
 rw [show decide ((64 : Int) < n) = false from decide_eq_false (by omega)]
 (refine go ?_; try exact True.intro)
 refine makeB tab_ok n slt0.row _ rfl (.c _ rfl (.c _ rfl (.c _ rfl (.c _ rfl .nil)))) rfl rfl (by omega) rfl (go ?_)
 have hup : ∀ i,(upTo i).length = i:=fun i=>by simp [upTo]
 refine loopB tab_ok mix [2,4,16] [0,576] (fun i : Nat=>[(17,V.int i)]) (fun i=>[(704,.rows 3 [[.ac 576 4 n,.ac 1 1 i,V.int 0]]),(1,.dat 1 ((upTo i).map intD))]) (fun i=>i ≤ n) (fun i=>n - i) [(1,705)] 0 rfl (by omega) (by (refine go ?_; try exact True.intro)) ?_
 rintro i hi
 (refine go ?_; try exact True.intro)
 refine br_dec (fun u=>?_) (fun u=>?_) <;> (refine go ?_; try exact True.intro)
 · have u' : i < n:=by omega
   refine cb (by rw [List.length_map,hup];exact ⟨rfl,by simp;omega⟩) (go ?_)
   refine .mk [(1,1408)] (i + 1) (by omega) (by omega) (go ?_)
   exact cb (by simp [upTo,List.range_succ,intD]) (by (refine go ?_; try exact True.intro))
 · obtain rfl : i = n:=by omega
   refine callL (reverseC (upTo i) (by rw [hup];omega)) [some 1] [] rfl (go ?_)
   refine cb (hup i).symm (go ?_)
   refine frzK (go ?_)
   exact cb ⟨by simp [hup],by rfl⟩ (by (refine go ?_; try exact True.intro))
theorem newStoC (n : Nat) (h : 1 ≤ n ∧ n ≤ 64) : LSpec Tryz.prog 60 [V.int n] [] 0 (.p 0 10 0 0) (stoB ⟨mem0 (n + 1) 4,List.replicate n slt0,idle0 n,0,⟨0,[],[],[],0,0⟩⟩ 2) 5:=by
 refine lspec tab_ok mix Tryz.func60 (by kernel_rfl) (by rfl) (by rfl) (by rfl) (by rfl) ?_
 (refine go ?_; try exact True.intro)
 refine callB (newArenaC n h) (go ?_)
 rw [show ((n : Int) + 1) = ((n + 1 : Nat) : Int) by omega,show V.c (Value.int IntKind.i64 4) = V.int ((4 : Nat) : Int) from rfl]
 refine dcallL (newMemC (n + 1) 4 (by omega) (by omega)) [] [] (go ?_)
 refine dcallB newLadC (go ?_)
 refine .mk [(0,1152),(1,896),(2,897),(3,898),(4,899)] (go ?_);try exact True.intro
open Go.ChangeShapes Go.WideShapes Go.ChangeAt Go.RowKit
set_option maxRecDepth 100000
theorem PSpec.of_calls {P : Program} {f : FuncId} {fn : Func} {a v : Value} (hf : P.funcs[f]? = some fn) (hname : (fn.name == "runtime.NumGoroutine") = false) (hb : fn.body.isNone = false) (h : ∀ w, Calls P f #[a] w fun e w' => e = .returned v ∧ w = w') : PSpec P f [.c a] (.c v) := by
 refine ⟨fun x hx=>by rw [List.mem_singleton] at hx;subst hx;exact .c _,.c _,fun F ids w vals hF hsz hv=>?_⟩
 have e : vals = #[a]:=by
  have h1 : vals.size = 1:=hsz
  have h0:=hv 0 (.c a) vals[0] rfl (by simp)
  have h2 : vals[0] = a:=by
   generalize vals[0] = z at h0
   cases h0;rfl
  apply Array.ext (by simpa using h1)
  intro i h1' h2'
  have : i = 0:=by simp at h2';exact h2'
  subst this
  simpa using h2
 subst e
 refine ⟨?_,(h w).mono ?_⟩
 · simp only [callFunc,Sem.run_bind,run_program,Result.andThen_ok,hf,hname,Bool.false_eq_true,if_false,hb,Sem.run_pure]
 · rintro e w' ⟨rfl,rfl⟩
   exact ⟨v,rfl,.c _,Goes.refl _ _⟩
theorem len64_0 (w : World) : Calls Tryz.prog 220 #[.int .u64 0] w fun e w'=>e = .returned (.int .i64 0) ∧ w = w':=by
 go_enter Tryz.func220,Tryz.ntmps220
 go_wp2
 go_ret
 exact ⟨by kernel_rfl,by kernel_rfl⟩
theorem len64_1 (w : World) : Calls Tryz.prog 220 #[.int .u64 1] w fun e w'=>e = .returned (.int .i64 1) ∧ w = w':=by
 go_enter Tryz.func220,Tryz.ntmps220
 go_wp2
 go_ret
 exact ⟨by kernel_rfl,by kernel_rfl⟩
theorem len64_2 (w : World) : Calls Tryz.prog 220 #[.int .u64 2] w fun e w'=>e = .returned (.int .i64 2) ∧ w = w':=by
 go_enter Tryz.func220,Tryz.ntmps220
 go_wp2
 go_ret
 exact ⟨by kernel_rfl,by kernel_rfl⟩
theorem len64_3 (w : World) : Calls Tryz.prog 220 #[.int .u64 3] w fun e w'=>e = .returned (.int .i64 2) ∧ w = w':=by
 go_enter Tryz.func220,Tryz.ntmps220
 go_wp2
 go_ret
 exact ⟨by kernel_rfl,by kernel_rfl⟩
theorem len64_4 (w : World) : Calls Tryz.prog 220 #[.int .u64 4] w fun e w'=>e = .returned (.int .i64 3) ∧ w = w':=by
 go_enter Tryz.func220,Tryz.ntmps220
 go_wp2
 go_ret
 exact ⟨by kernel_rfl,by kernel_rfl⟩
theorem len64_5 (w : World) : Calls Tryz.prog 220 #[.int .u64 5] w fun e w'=>e = .returned (.int .i64 3) ∧ w = w':=by
 go_enter Tryz.func220,Tryz.ntmps220
 go_wp2
 go_ret
 exact ⟨by kernel_rfl,by kernel_rfl⟩
theorem len64_6 (w : World) : Calls Tryz.prog 220 #[.int .u64 6] w fun e w'=>e = .returned (.int .i64 3) ∧ w = w':=by
 go_enter Tryz.func220,Tryz.ntmps220
 go_wp2
 go_ret
 exact ⟨by kernel_rfl,by kernel_rfl⟩
theorem len64_7 (w : World) : Calls Tryz.prog 220 #[.int .u64 7] w fun e w'=>e = .returned (.int .i64 3) ∧ w = w':=by
 go_enter Tryz.func220,Tryz.ntmps220
 go_wp2
 go_ret
 exact ⟨by kernel_rfl,by kernel_rfl⟩
theorem len64_8 (w : World) : Calls Tryz.prog 220 #[.int .u64 8] w fun e w'=>e = .returned (.int .i64 4) ∧ w = w':=by
 go_enter Tryz.func220,Tryz.ntmps220
 go_wp2
 go_ret
 exact ⟨by kernel_rfl,by kernel_rfl⟩
theorem len64_9 (w : World) : Calls Tryz.prog 220 #[.int .u64 9] w fun e w'=>e = .returned (.int .i64 4) ∧ w = w':=by
 go_enter Tryz.func220,Tryz.ntmps220
 go_wp2
 go_ret
 exact ⟨by kernel_rfl,by kernel_rfl⟩
theorem len64_10 (w : World) : Calls Tryz.prog 220 #[.int .u64 10] w fun e w'=>e = .returned (.int .i64 4) ∧ w = w':=by
 go_enter Tryz.func220,Tryz.ntmps220
 go_wp2
 go_ret
 exact ⟨by kernel_rfl,by kernel_rfl⟩
theorem len64_11 (w : World) : Calls Tryz.prog 220 #[.int .u64 11] w fun e w'=>e = .returned (.int .i64 4) ∧ w = w':=by
 go_enter Tryz.func220,Tryz.ntmps220
 go_wp2
 go_ret
 exact ⟨by kernel_rfl,by kernel_rfl⟩
theorem len64_12 (w : World) : Calls Tryz.prog 220 #[.int .u64 12] w fun e w'=>e = .returned (.int .i64 4) ∧ w = w':=by
 go_enter Tryz.func220,Tryz.ntmps220
 go_wp2
 go_ret
 exact ⟨by kernel_rfl,by kernel_rfl⟩
theorem len64C (n : Nat) (h : n ≤ 12) : ∃ r,PSpec Tryz.prog 220 [.c (.int .u64 n)] (V.int r):=by
 have go : ∀ {k : Nat} {r : Int},(∀ w,Calls Tryz.prog 220 #[.int .u64 k] w fun e w'=>e = .returned (.int .i64 r) ∧ w = w') → ∃ r,PSpec Tryz.prog 220 [.c (.int .u64 k)] (V.int r):=fun hc=>⟨_,PSpec.of_calls Tryz.func220 (by kernel_rfl) (by kernel_rfl) hc⟩
 have : n = 0 ∨ n = 1 ∨ n = 2 ∨ n = 3 ∨ n = 4 ∨ n = 5 ∨ n = 6 ∨ n = 7 ∨ n = 8 ∨ n = 9 ∨ n = 10 ∨ n = 11 ∨ n = 12:=by omega
 rcases this with rfl | rfl | rfl | rfl | rfl | rfl | rfl | rfl | rfl | rfl | rfl | rfl | rfl
 · exact go len64_0
 · exact go len64_1
 · exact go len64_2
 · exact go len64_3
 · exact go len64_4
 · exact go len64_5
 · exact go len64_6
 · exact go len64_7
 · exact go len64_8
 · exact go len64_9
 · exact go len64_10
 · exact go len64_11
 · exact go len64_12
theorem lenC64 (n : Nat) (h : n ≤ 12) : ∃ r,PSpec Tryz.prog 156 [.c (.int .u64 n)] (V.int r):=by
 obtain ⟨r,hr⟩:=len64C n h
 refine ⟨r,?_⟩
 refine pspec tab_ok mix Tryz.func156 (by kernel_rfl) rfl rfl ?_
 (refine go ?_; try exact True.intro)
 refine callB hr (go ?_)
 exact .same rfl
theorem wrUn {n : Int} {K : Int → Prop} (h : 0 ≤ n ∧ n ≤ 9223372036854775807) (k : K n) : WrB .u64 n K:=⟨by
 have e : wr .u64 n = n:=by
  have e : wr .u64 n = IntKind.wrap .u64 n:=rfl
  rw [e,IntKind.wrap_u64];omega
 rw [e];exact k⟩
theorem pdqC (R : List Item) (lim : Int) (hl : R.length ≤ 12) : LSpec Tryz.prog 155 [.ac 0 3 R.length,V.int 0,V.int R.length,V.int lim,cmpF] [(0,.dat 3 (R.map Item.row))] 1 (.tup []) [(0,.dat 3 ((ssort cmpEv R).map Item.row))] 1:=by
 have hi:=insertionAt [] R [] 0 R.length R.length rfl (by simp) (by simp) (by omega) (fun _ _=>trivial)
 simp only [List.nil_append,List.append_nil] at hi
 refine lspec tab_ok mix Tryz.func155 (by kernel_rfl) (by rfl) (by rfl) (by rfl) (by rfl) ?_
 (refine go ?_; try exact True.intro)
 refine loopB_rounds tab_ok mix 1 (by decide) (go ?_)
 rw [show decide ((R.length : Int) - 0 ≤ 12) = true from decide_eq_true (by omega)]
 (refine go ?_; try exact True.intro)
 refine callL hi [some 0] [] rfl (go ?_)
 refine .mk [] (go ?_);try exact True.intro
theorem sortFuncC (R : List Item) (hl : R.length ≤ 12) : LSpec Tryz.prog 83 [.ac 0 3 R.length,cmpF] [(0,.dat 3 (R.map Item.row))] 1 (.tup []) [(0,.dat 3 ((ssort cmpEv R).map Item.row))] 1:=by
 obtain ⟨r,hr⟩:=lenC64 R.length hl
 refine lspec tab_ok mix Tryz.func83 (by kernel_rfl) (by rfl) (by rfl) (by rfl) (by rfl) ?_
 (refine go ?_; try exact True.intro)
 refine wrUn (by omega) (go ?_)
 refine callB hr (go ?_)
 refine callL (pdqC R r hl) [some 0] [] rfl (go ?_)
 refine .mk [] (go ?_);try exact True.intro
theorem itemsC (s : Sto) (hl : s.q.items.length ≤ 12) (hsm : s.q.Small) : LSpec Tryz.prog 30 [.p 0 10 0 0] (stoB s 2) 5 (itemsV (ssort cmpEv s.q.items)) (stoB s 2) 5:=by
 have hle:=accL_len s.q
 have hlen:=hsm.len
 have hrl:=hsm.rungs
 have htb : (s.q.top ++ s.q.bottom).length < 1000000:=by
  have:=hle 0
  unfold accL at this
  simp at this ⊢;omega
 have hcat : ([s.q.top,s.q.bottom] : List (List Item)).flatten = s.q.top ++ s.q.bottom:=by simp
 have h0 : accL s.q 0 = s.q.top ++ s.q.bottom:=by unfold accL;simp
 have hn : ∀ (i : Nat) (r : Rng),s.q.rungs[i]? = some r → accL s.q (i + 1) = accL s.q i ++ r.items:=fun i r hr=>accL_next hr
 have hend:=accL_end s.q
 generalize accL s.q = acc at *
 refine lspec tab_ok mix Tryz.func30 (by kernel_rfl) (by rfl) (by rfl) (by rfl) (by rfl) ?_
 (refine go ?_; try exact True.intro)
 refine dcallL (concatC [s.q.top,s.q.bottom] (by simp) (by rw [hcat];exact htb)) [] [] ?_
 rw [hcat]
 (refine go ?_; try exact True.intro)
 refine loopB tab_ok mix [22,23] [0,1,2,3,4] (fun i : Nat=>[(3,.ac 5 3 (acc i).length),(24,V.int i)]) (fun i=>[(5,.dat 3 ((acc i).map Item.row))]) (fun i=>i ≤ s.q.rungs.length) (fun i=>s.q.rungs.length - i) [(5,832)] 0 rfl (by omega) (by rw [h0];(refine go ?_; try exact True.intro)) ?_
 rintro i hi
 have hli:=hle i
 (refine go ?_; try exact True.intro)
 refine br_dec (fun g=>?_) (fun g=>?_) <;> (refine go ?_; try exact True.intro)
 · have g' : i < s.q.rungs.length:=by simpa using g
   obtain ⟨r,hr⟩:=get_lt g'
   have hm:=List.mem_of_getElem? hr
   have hni:=hn i r hr
   have hl2:=hle (i + 1)
   rw [hni,List.length_append] at hl2
   refine idxB hr (go ?_)
   refine callL (concatC r.bkts (hsm.each r hm) (small_rung hsm hm)) [] [] rfl (go ?_)
   rw [show r.bkts.flatten = r.items from rfl]
   refine cb (by simp) (go ?_)
   refine .mk [(5,1984)] (i + 1) (by omega) (by omega) ?_
   rw [hni]
   (refine go ?_; try exact True.intro)
 · have e : i = s.q.rungs.length:=by simp at g;omega
   subst e
   rw [hend]
   refine callL (sortFuncC s.q.items hl) [some 5] [] rfl (go ?_)
   refine .mk [] (go ?_)
   refine cb ⟨by rw [List.length_map,ssort_len cmpEvC],rfl⟩ (go ?_);try exact True.intro
def Sto.pic (s : Sto) (p : Nat) : Slt:=⟨s.m.word (p + 1) / 4,s.m.word (p + 1) % 4,(s.slot p).time,(s.slot p).seq⟩
def Sto.pics (s : Sto) : List Slt:=(List.range s.slots.length).map s.pic
def Sto.picK (s : Sto) (i : Nat) : List Slt:=(List.range s.slots.length).map fun p=>if p < i then s.pic p else s.slot p
theorem Sto.picK_len (s : Sto) (i : Nat) : (s.picK i).length = s.slots.length:=by simp [Sto.picK]
theorem Sto.picK_get (s : Sto) (i : Nat) {p : Nat} (h : p < s.slots.length) : (s.picK i)[p]? = some (if p < i then s.pic p else s.slot p):=by
 unfold Sto.picK
 rw [List.getElem?_map,List.getElem?_range h];rfl
theorem Sto.picK_zero (s : Sto) : s.picK 0 = s.slots:=by
 apply List.ext_getElem?
 intro p
 by_cases h : p < s.slots.length
 · rw [s.picK_get 0 h,if_neg (by omega),Sto.slot_get h]
 · rw [List.getElem?_eq_none (by rw [s.picK_len];omega),List.getElem?_eq_none (by omega)]
theorem Sto.picK_end (s : Sto) : s.picK s.slots.length = s.pics:=by
 unfold Sto.picK Sto.pics
 refine List.map_congr_left fun p hp=>?_
 rw [if_pos (List.mem_range.1 hp)]
theorem Sto.picK_next (s : Sto) {i : Nat} (h : i < s.slots.length) : (s.picK i).set i (s.pic i) = s.picK (i + 1):=by
 apply List.ext_getElem?
 intro p
 by_cases hp : p < s.slots.length
 · rw [s.picK_get (i + 1) hp,List.getElem?_set,s.picK_len,s.picK_get i hp]
   by_cases e : i = p
   · rw [if_pos e,if_pos (by omega),if_pos (by omega),e]
   · rw [if_neg e]
     by_cases c : p < i
     · rw [if_pos c,if_pos (by omega)]
     · rw [if_neg c,if_neg (by omega)]
 · rw [List.getElem?_eq_none (by simp [s.picK_len];omega),List.getElem?_eq_none (by rw [s.picK_len];omega)]
def arenaV (slots : List Slt) (idle : List Int) (next : Int) : V:=.agg [sltsV slots,intsV idle,V.int next]
theorem arenaC (s : Sto) (hf : s.Fits) (hw : s.slots.length < s.m.words.length) (hv : ∀ p,p < s.slots.length → 0 ≤ s.m.word (p + 1) ∧ s.m.word (p + 1) ≤ 2305843009213693952) :
 LSpec Tryz.prog 24 [.p 0 10 0 0] (stoB s 2) 5 (arenaV s.pics s.idle s.next) (stoB s 2) 5:=by
 have hsl:=hf.slots
 have h0:=s.picK_zero
 refine lspec tab_ok mix Tryz.func24 (by kernel_rfl) (by rfl) (by rfl) (by rfl) (by rfl) ?_
 (refine go ?_; try exact True.intro)
 refine callL (cloneSlts s.slots (by omega)) [] [] rfl (go ?_)
 refine loopB tab_ok mix [0,2,3,16] [0,1,2,3,4,64,384] (fun i : Nat=>[(17,V.int i)]) (fun i=>[(640,.dat 4 ((s.picK i).map Slt.row))]) (fun i=>i ≤ s.slots.length) (fun i=>s.slots.length - i) [] 0 rfl (by omega) (by rw [h0];(refine go ?_; try exact True.intro)) ?_
 rintro i hi
 (refine go ?_; try exact True.intro)
 refine br_dec (fun u=>?_) (fun u=>?_) <;> (refine go ?_; try exact True.intro)
 · have u' : i < s.slots.length:=by omega
   have hgi:=s.picK_get i u'
   rw [if_neg (by omega)] at hgi
   have hnx:=s.picK_next u'
   have hvi:=hv i u'
   rw [show (1 + (i : Int)) = ((i + 1 : Nat) : Int) by omega]
   refine callL (wordAtC s.m (i + 1) (by omega) hf.mem) [some 1,some 2,some 3,some 4] [] rfl (go ?_)
   refine dcallB (genC (s.m.word (i + 1))) (go ?_)
   refine dcallB (stateC (s.m.word (i + 1)) hvi) (go ?_)
   refine atB u' (go ?_)
   refine getB hgi (go ?_)
   refine atB u' (go ?_)
   refine getB_lit [.c (.int .i64 (s.m.word (i + 1) / 4)),.c (.int .i64 (s.slot i).state),.c (.int .i64 (s.slot i).time),.c (.int .i64 (s.slot i).seq)] (by simp [s.picK_len,u']) (go ?_)
   refine .mk [] (i + 1) (by omega) (by omega) ?_
   rw [← hnx]
   (refine go ?_; try exact True.intro)
   exact cb (by rw [List.set_set,List.map_set];rfl) (by (refine go ?_; try exact True.intro))
 · have e : i = s.slots.length:=by omega
   subst e
   rw [s.picK_end]
   refine .mk [] (go ?_)
   refine cb ⟨by simp [Sto.pics],rfl⟩ (go ?_);try exact True.intro
end Go.Proofs.YtdjnjchpgccbiaaGreat.Abs
