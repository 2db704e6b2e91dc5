/- Rules that find their own side conditions: what the short words of the texts call. -/
import Derived.Test.YtdjnjchpgccbiaaGreatL3
import Derived.Test.YtdjnjchpgccbiaaGreatTB
namespace Go.Proofs.YtdjnjchpgccbiaaGreat.Abs
open Go.Proofs
theorem z1 {n : Int} {K : Int → Prop} (k : K n) (h : -9223372036854775808 ≤ n ∧ n ≤ 9223372036854775807:=by omega) : WrB .i64 n K:=wrB h k
theorem z2 {c : Bool} {K : Prop} (k : K) (h : c = true:=by kernel_rfl) : OkB c K:=okB h k
theorem z3 {p K : Prop} (k : K) (h : p:=by first | rfl | omega | (simp;done) | (simp;omega)) : CB p K:=cb h k
theorem z7 {N : Nat} {c : Code} {t : List V} {h : List (Nat × B)} {b : Nat} {K : Ex → List V → List (Nat × B) → Nat → Prop} (hk : Zoj Tryz.prog tab N c t h b K) : StepB Tryz.prog tab N c t h b K:=cnd tab_ok mix hk
structure Left (N : Prop) : Prop where
 n : N
theorem tt : True:=.intro
theorem go {G N : Prop} (k : N) (h : Left N → G:=by
 intro k
 (conv=>whnf)
 (repeat (first | refine z1 ?_ | refine z2 ?_ | refine z3 ?_ | refine Zmf (by decide) rfl ?_ | refine ZpS (by decide) (by decide) ?_ | refine Y6 _ rfl ?_ | refine z7 ?_);conv=>whnf)
 exact k.n) : G:=h ⟨k⟩
theorem goj {G N : Prop} (k : N) (h : Left N → G:=by
 intro k
 (conv=>whnf)
 (repeat (first | refine z1 ?_ | refine z2 ?_ | refine z3 ?_ | refine Zmf (by decide) rfl ?_ | refine ZpS (by decide) (by decide) ?_ | refine Y6 _ rfl ?_);conv=>whnf)
 exact k.n) : G:=h ⟨k⟩
theorem Zox {α : Type} (M : List α) (i : Nat) (hi : i < M.length) (x : α) (Z : List α) (hz : Z.length = M.length + 1 - i) :
 ((M.take i ++ Z).take i ++ ([x] ++ (M.take i ++ Z).drop (i + 1))).take (i + 1) ++ ((M.drop i).take (M.length - i) ++ ((M.take i ++ Z).take i ++ ([x] ++ (M.take i ++ Z).drop (i + 1))).drop (i + 1 + (M.length - i))) = M.take i ++ x :: M.drop i:=by
 have hl : (M.take i).length = i:=by rw [List.length_take];omega
 have a : (M.take i ++ Z).take i = M.take i:=by
  have:=List.take_left' (l₂:=Z) hl
  exact this
 rw [a]
 have e : M.take i ++ ([x] ++ (M.take i ++ Z).drop (i + 1)) = (M.take i ++ [x]) ++ (M.take i ++ Z).drop (i + 1):=by simp
 have b : (M.take i ++ ([x] ++ (M.take i ++ Z).drop (i + 1))).take (i + 1) = M.take i ++ [x]:=by
  rw [e];exact List.take_left' (by simp [hl])
 have c : (M.take i ++ ([x] ++ (M.take i ++ Z).drop (i + 1))).drop (i + 1 + (M.length - i)) = []:=by
  apply List.drop_eq_nil_of_le
  simp only [List.length_append,List.length_drop,List.length_singleton,hl,hz]
  omega
 have d : (M.drop i).take (M.length - i) = M.drop i:=List.take_of_length_le (by rw [List.length_drop];omega)
 rw [b,c,d]
 simp
theorem Zpq {α : Type} (M : List α) (i : Nat) (hi : i < M.length) (x : α) :
 (M.take (i + 1) ++ ((M.drop i).take (M.length - i) ++ M.drop (i + 1 + (M.length - i)))).take i ++ ([x] ++ (M.take (i + 1) ++ ((M.drop i).take (M.length - i) ++ M.drop (i + 1 + (M.length - i)))).drop (i + 1)) = M.take i ++ x :: M.drop i:=by
 have hl : (M.take (i + 1)).length = i + 1:=by rw [List.length_take];omega
 have d : (M.drop i).take (M.length - i) = M.drop i:=List.take_of_length_le (by rw [List.length_drop];omega)
 have c : M.drop (i + 1 + (M.length - i)) = []:=List.drop_eq_nil_of_le (by omega)
 rw [c,d,List.append_nil]
 have e : (M.take (i + 1) ++ M.drop i).drop (i + 1) = M.drop i:=List.drop_left' hl
 have f : (M.take (i + 1) ++ M.drop i).take i = M.take i:=by
  rw [List.take_append_of_le_length (by omega),List.take_take]
  congr 1;omega
 rw [e,f];rfl
set_option maxRecDepth 10000
set_option linter.unusedSimpArgs false
set_option linter.unusedVariables false
def ZcA (a b : Int) : Int:=if a < b then -1 else if b < a then 1 else 0
theorem isNaN (a : Int) : PSpec Tryz.prog 222 [V.int a] (V.bool false):=by
 refine pspec tab_ok mix Tryz.func222 (by kernel_rfl) rfl rfl ?_
 (refine go ?_; try trivial)
 exact .same (by simp)
theorem ZeV (a b : Int) : PSpec Tryz.prog 158 [V.int a,V.int b] (V.int (ZcA a b)):=by
 refine pspec tab_ok mix Tryz.func158 (by kernel_rfl) rfl rfl ?_
 (refine go ?_; try trivial)
 refine Zh (isNaN a) (go ?_)
 refine Zh (isNaN b) (go ?_)
 refine Zf (fun h=>?_) (fun h=>?_) <;> (refine go ?_; try trivial)
 · exact .same (by simp [ZcA,h])
 · refine Zf (fun h=>?_) (fun h=>?_) <;> (refine go ?_; try trivial)
   · exact .same (by simp [ZcA, *])
   · exact .same (by simp [ZcA, *])
def QF (n : Int) : List D:=[.c (.int .i64 n)]
def or2 (a b : Int) : Int:=if a = 0 then b else a
theorem Zul (a b : Int) : PSpec Tryz.prog 221 [.lst 1 [QF a,QF b] true] (V.int (or2 a b)):=by
 refine pspec tab_ok mix Tryz.func221 (by kernel_rfl) rfl rfl ?_
 (refine go ?_; try trivial)
 refine Zgs tab_ok mix 3 (by decide) (go ?_)
 refine Za3 (fun h=>?_) (fun h=>?_) <;> (refine go ?_; try trivial)
 · exact .same (by simp [or2,h])
 · refine Za3 (fun g=>?_) (fun g=>?_) <;> (refine go ?_; try trivial)
   · exact .same (by simp [or2,h])
   · exact .same (by simp [or2,h,g])
theorem ZsI (a b : Int) : PSpec Tryz.prog 157 [.lst 1 [QF a,QF b] true] (V.int (or2 a b)):=by
 refine pspec tab_ok mix Tryz.func157 (by kernel_rfl) rfl rfl ?_
 (refine go ?_; try trivial)
 refine Zh (Zul a b) (go ?_)
 exact .same rfl
structure Item where
 time : Int
 seq : Int
 slot : Int
def Item.v (x : Item) : V:=.agg [V.int x.time,V.int x.seq,V.int x.slot]
def Item.row (x : Item) : List D:=[.c (.int .i64 x.time),.c (.int .i64 x.seq),.c (.int .i64 x.slot)]
def Zr (x y : Item) : Int:=or2 (ZcA x.time y.time) (ZcA x.seq y.seq)
theorem Za4 (x y : Item) : PSpec Tryz.prog 84 [x.v,y.v] (V.int (Zr x y)):=by
 refine pspec tab_ok mix Tryz.func84 (by kernel_rfl) rfl rfl ?_
 (refine go ?_; try trivial)
 refine Zn (ZeV _ _) (go ?_)
 refine Zn (ZeV _ _) (go ?_)
 refine Zn (ZsI _ _) (go ?_)
 exact .same rfl
theorem Zb3 {α : Type} {l : List α} {i : Nat} {x : α} (h : l[i]? = some x) : l.drop i = x :: l.drop (i + 1):=by
 obtain ⟨hi,rfl⟩:=List.getElem?_eq_some_iff.1 h
 exact List.drop_eq_getElem_cons hi
theorem ZF {α : Type} {l : List α} {i : Nat} (h : i < l.length) : ∃ x,l[i]? = some x:=⟨l[i],by simp [h]⟩
theorem ZhC (x : Item) : LSpec Tryz.prog 246 [.ac 0 3 0,V.int 0,.lst 3 [Item.row x] true] [(0,.dat 3 [])] 1 (.ac 1 3 1) [(1,.dat 3 [Item.row x])] 2:=by
 refine lspec tab_ok mix Tryz.func246 (by kernel_rfl) (by rfl) (by rfl) (by rfl) (by rfl) ?_
 (refine go ?_; try trivial)
 refine slB 0 0 rfl rfl (by omega) (go ?_)
 refine .mk [(1,1152)] (go ?_);try trivial
set_option maxHeartbeats 1000000 in
theorem Zkd (R : List Item) (i : Nat) (x : Item) (hi : i ≤ R.length) (h0 : 0 < R.length) (hl : R.length < 1073741824) :
 LSpec Tryz.prog 246 [.ac 0 3 R.length,V.int i,.lst 3 [Item.row x] true] [(0,.dat 3 (R.map Item.row))] 1 (.ac 1 3 (R.length + 1)) [(1,.dat 3 ((R.take i ++ x :: R.drop i).map Item.row))] 2:=by
 refine LSpec.room fun cap hcap=>?_
 have hne : R.map Item.row ≠ []:=by intro e;rw [List.map_eq_nil_iff] at e;subst e;simp at h0
 have e1 : [Item.row x].length = 1:=rfl
 have ne : ∀ {l : List (List D)},0 < l.length → l ≠ []:=fun h e=>by rw [e] at h;simp at h
 have hlm : (R.map Item.row).length = R.length:=List.length_map _
 refine lspec tab_ok mix Tryz.func246 (by kernel_rfl) (by rfl) (by rfl) (by rfl) (by rfl) ?_
 (refine go ?_; try trivial)
 refine ZsD tab_ok _ rfl i R.length rfl ⟨_,rfl⟩ rfl hi hcap (go ?_)
 refine ZuC tab_ok (go ?_)
 refine Zf (fun h=>?_) (fun h=>?_) <;> (refine go ?_; try trivial)
 · have e : i = R.length:=by omega
   subst e
   refine ZuC tab_ok (go ?_)
   refine cb ⟨hne,by omega,by simp;omega⟩ (go ?_)
   refine .mk [(1,1152)] (go ?_)
   refine cb ?_ trivial
   simp [List.take_of_length_le,hlm]
 · have hin : i < R.length:=by omega
   refine ZuM tab_ok _ rfl rfl (go ?_)
   refine Zf (fun hg=>?_) (fun hg=>?_) <;> (refine go ?_; try trivial)
   · refine ZsD tab_ok _ rfl 0 i rfl rfl ⟨_,rfl⟩ (by omega) (by omega) (go ?_)
     refine Zrf tab_ok _ _ [.c (.int .i64 0),.c (.int .i64 0),.c (.int .i64 0)] rfl (.c _ rfl (.c _ rfl (.c _ rfl .nil))) rfl rfl (R.length + 1 - i) rfl (kq:=.i64) (congrArg (fun z : Int=>V.c (.int .i64 z)) (by omega : (R.length : Int) + ([Item.row x].length : Int) - (i : Int) = ((R.length + 1 - i : Nat) : Int))) rfl ⟨hne,by simp;omega,by simp at hg ⊢;omega,by omega,by omega⟩ rfl rfl (go ?_)
     refine slB i (R.length + 1) rfl (by show _ = _;omega) (by omega) (go ?_)
     refine ZsP tab_ok _ rfl 1 rfl rfl ⟨ne (by simp;omega),by simp;omega,by simp;omega⟩ (.lst _ _ (by simp)) (go ?_)
     refine slB (i + 1) (R.length + 1) (by show (i : Int) + ([Item.row x].length : Int) = _;omega) (by show _ = _;omega) (by omega) (go ?_)
     refine ZsZ tab_ok _ rfl i R.length rfl ⟨_,rfl⟩ rfl ⟨by omega,by omega⟩ (go ?_)
     refine ZpM tab_ok _ rfl (R.length - i) rfl rfl ⟨ne (by simp;omega),by simp;omega,by omega⟩ (.sx _ _ _ _ (R.map Item.row) rfl hne (by omega) (by omega)) (go ?_)
     refine .mk [(1,1920)] (go ?_)
     refine cb ?_ trivial
     have:=Zox (R.map Item.row) i (by omega) (Item.row x) (List.replicate (R.length + 1 - i) [.c (.int .i64 0),.c (.int .i64 0),.c (.int .i64 0)]) (by simp)
     simp only [Nat.zero_add,Nat.sub_zero,List.drop_zero,List.take_succ_cons,List.take_zero]
     rw [hlm] at this
     rw [this];simp
   · refine Zub tab_ok _ rfl 0 (R.length + 1) rfl rfl ⟨.i64,congrArg (fun z : Int=>V.c (.int .i64 z)) (by omega : (R.length : Int) + ([Item.row x].length : Int) = ((R.length + 1 : Nat) : Int))⟩ ⟨by omega,by omega⟩ (go ?_)
     refine slB (i + 1) (R.length + 1) (by show (i : Int) + ([Item.row x].length : Int) = _;omega) (by show _ = _;omega) (by omega) (go ?_)
     refine ZmV (ε:=ty97) (tS:=68) (tR:=4) tab_ok Tryz.func270 (by kernel_rfl) (by kernel_rfl) (by kernel_rfl) (by kernel_rfl) rfl (.sl _ _) rfl hne (by decide) (by omega) (go ?_)
     refine slB (i + 1) (R.length + 1) (by show (i : Int) + ([Item.row x].length : Int) = _;omega) (by show _ = _;omega) (by omega) (go ?_)
     refine slB i (R.length + 1) rfl (by show _ = _;omega) (by omega) (go ?_)
     refine ZpM tab_ok _ rfl (R.length - i) rfl rfl ⟨hne,by omega,by omega⟩ (.sl _ _ _ (R.map Item.row) rfl hne (by omega) (by omega)) (go ?_)
     refine slB i (R.length + 1) rfl (by show _ = _;omega) (by omega) (go ?_)
     refine ZsP tab_ok _ rfl 1 rfl rfl ⟨ne (by simp;omega),by simp;omega,by simp;omega⟩ (.lst _ _ (by simp)) (go ?_)
     refine .mk [(1,0)] (go ?_)
     refine cb ?_ trivial
     have:=Zpq (R.map Item.row) i (by omega) (Item.row x)
     simp only [Nat.zero_add,Nat.sub_zero,List.drop_zero,List.take_succ_cons,List.take_zero]
     rw [hlm] at this
     rw [this];simp
def Zsi (b : List Item) : D:=.lst 3 (b.map Item.row)
def ZI (b : List Item) : V:=.lst 3 (b.map Item.row) false
def ZgF (b : List Item) : List D:=[Zsi b]
def ZfV (bs : List (List Item)) : V:=.lst 1 (bs.map ZgF) false
structure Rng where
 from' : Int
 width : Int
 cur : Int
 bkts : List (List Item)
def Rng.v (r : Rng) : V:=.agg [V.int r.from',V.int r.width,V.int r.cur,ZfV r.bkts]
def Rng.row (r : Rng) : List D:=[.c (.int .i64 r.from'),.c (.int .i64 r.width),.c (.int .i64 r.cur),.lst 1 (r.bkts.map ZgF)]
def Rng.at (r : Rng) (i : Int) : Int:=r.from' + i * r.width
structure Rng.Fits (r : Rng) : Prop where
 f : 0 ≤ r.from' ∧ r.from' ≤ 2305843009213693952
 w : 1 ≤ r.width ∧ r.width ≤ 288230376151711744
 c : 0 ≤ r.cur ∧ r.cur ≤ 8
theorem Zjo (a b : Int) (ha : 0 ≤ a ∧ a ≤ 4611686018427387904) (hb : 1 ≤ b ∧ b ≤ 4611686018427387903) : PSpec Tryz.prog 297 [V.int a,V.int b] (V.int ((a + b - 1) / b)):=by
 refine pspec tab_ok mix Tryz.func297 (by kernel_rfl) rfl rfl ?_
 (refine go ?_; try trivial)
 have hd : 0 ≤ (a + b - 1) / b:=Int.ediv_nonneg (by omega) (by omega)
 have hd2 : (a + b - 1) / b ≤ a + b - 1:=Int.ediv_le_self _ (by omega)
 rw [Int.tdiv_eq_ediv_of_nonneg (by omega)]
 refine wrB (by omega) (go ?_)
 exact .same rfl
theorem Zp0 (w : Int) (hw : 0 ≤ w ∧ w ≤ 4611686018427387904) : PSpec Tryz.prog 274 [V.int w] (V.int ((w + 7) / 8)):=by
 refine pspec tab_ok mix Tryz.func274 (by kernel_rfl) rfl rfl ?_
 (refine go ?_; try trivial)
 refine Zh (Zjo w 8 hw (by omega)) (go ?_)
 exact .same (by congr 2;omega)
theorem Zsh (a b : Int) (ha : 0 ≤ a ∧ a ≤ b ∧ b ≤ 2305843009213693952) : PSpec Tryz.prog 279 [V.int a,V.int b] (V.int ((b - a + 8) / 8)):=by
 refine pspec tab_ok mix Tryz.func279 (by kernel_rfl) rfl rfl ?_
 (refine go ?_; try trivial)
 refine Zh (Zjo (b - a + 1) 8 (by omega) (by omega)) (go ?_)
 exact .same (by congr 2;omega)
theorem ZgZ (f w t : Int) (hf : 0 ≤ f ∧ f ≤ t ∧ t ≤ 4611686018427387904) (hw : 1 ≤ w) : PSpec Tryz.prog 268 [V.int f,V.int w,V.int t] (V.int ((t - f) / w)):=by
 refine pspec tab_ok mix Tryz.func268 (by kernel_rfl) rfl rfl ?_
 (refine go ?_; try trivial)
 have hd : 0 ≤ (t - f) / w:=Int.ediv_nonneg (by omega) (by omega)
 have hd2 : (t - f) / w ≤ t - f:=Int.ediv_le_self _ (by omega)
 rw [Int.tdiv_eq_ediv_of_nonneg (by omega)]
 refine wrB (by omega) (go ?_)
 exact .same rfl
theorem Zev {i w : Int} (hi : 0 ≤ i ∧ i ≤ 8) (hw : 1 ≤ w ∧ w ≤ 288230376151711744) : 0 ≤ i * w ∧ i * w ≤ 2305843009213693952:=by
 refine ⟨Int.mul_nonneg hi.1 (by omega),?_⟩
 have h1 : i * w ≤ 8 * w:=Int.mul_le_mul_of_nonneg_right hi.2 (by omega)
 omega
theorem ZgO (f w i : Int) (hf : 0 ≤ f ∧ f ≤ 2305843009213693952) (hw : 1 ≤ w ∧ w ≤ 288230376151711744) (hi : 0 ≤ i ∧ i ≤ 8) : PSpec Tryz.prog 290 [V.int f,V.int w,V.int i] (V.int (f + i * w)):=by
 have hm:=Zev hi hw
 refine pspec tab_ok mix Tryz.func290 (by kernel_rfl) rfl rfl ?_
 (refine go ?_; try trivial)
 exact .same rfl
theorem ZmB (r : Rng) (hr : r.Fits) (i : Int) (hi : 0 ≤ i ∧ i ≤ 8) : PSpec Tryz.prog 266 [r.v,V.int i] (V.int (r.at i)):=by
 refine pspec tab_ok mix Tryz.func266 (by kernel_rfl) rfl rfl ?_
 (refine go ?_; try trivial)
 refine Zh (ZgO r.from' r.width i hr.f hr.w hi) (go ?_)
 exact .same rfl
theorem Zft (r : Rng) (hr : r.Fits) : PSpec Tryz.prog 241 [r.v] (V.int (r.at r.cur)):=by
 refine pspec tab_ok mix Tryz.func241 (by kernel_rfl) rfl rfl ?_
 (refine go ?_; try trivial)
 refine Zh (ZmB r hr r.cur hr.c) (go ?_)
 exact .same rfl
theorem ZuW (r : Rng) (hr : r.Fits) : PSpec Tryz.prog 267 [r.v] (V.int (r.at 8)):=by
 refine pspec tab_ok mix Tryz.func267 (by kernel_rfl) rfl rfl ?_
 (refine go ?_; try trivial)
 refine Zh (ZmB r hr 8 (by omega)) (go ?_)
 exact .same rfl
theorem Zhf (b : List Item) : PSpec Tryz.prog 242 [ZI b] (.lst 3 (b.map Item.row) true):=by
 refine pspec tab_ok mix Tryz.func242 (by kernel_rfl) rfl rfl ?_
 (refine go ?_; try trivial)
 refine slB 0 b.length rfl (by simp [Zkw]) (by simp) (go ?_)
 exact .same (by rw [List.take_of_length_le (by simp)];rfl)
theorem ZgM (bs : List (List Item)) (hl : bs.length < 1073741824) : LSpec Tryz.prog 291 [ZfV bs] [] 0 (.ac 0 1 bs.length) [(0,.dat 1 (bs.map ZgF))] 1:=by
 refine lspec tab_ok mix Tryz.func291 (by kernel_rfl) (by rfl) (by rfl) (by rfl) (by rfl) ?_
 (refine go ?_; try trivial)
 refine ZrO ?_ ?_
 · (refine go ?_; try trivial)
   refine .mk [(0,384)] (go ?_);try trivial
 · intro h
   have h : bs = []:=by simpa using h
   subst h
   (refine go ?_; try trivial)
   refine .mk [] (go ?_);try trivial
theorem ZnS (bs : List (List Item)) (i : Nat) (b : List Item) (hi : i < bs.length) (hl : bs.length < 1073741824) : LSpec Tryz.prog 269 [ZfV bs,V.int i,ZI b] [] 0 (ZfV (bs.set i b)) [] 0:=by
 refine lspec tab_ok mix Tryz.func269 (by kernel_rfl) (by rfl) (by rfl) (by rfl) (by rfl) ?_
 (refine go ?_; try trivial)
 refine Za (ZgM bs hl) [] [] rfl (go ?_)
 refine atB hi (go ?_)
 refine Yy (show bs[i]? = some bs[i] by simp [hi]) (go ?_)
 refine .mk [] (go ?_)
 all_goals exact cb ⟨by simp,by rw [List.map_set];rfl⟩ (by (refine go ?_; try trivial))
theorem Zpa (bs : List (List Item)) (i : Nat) (b : List Item) (hi : i < bs.length) (hl : bs.length < 1073741824) : PSpec Tryz.prog 269 [ZfV bs,V.int i,ZI b] (ZfV (bs.set i b)):=by
 refine pspec tab_ok mix Tryz.func269 (by kernel_rfl) rfl rfl ?_
 (refine go ?_; try trivial)
 refine Za (ZgM bs hl) [] [] rfl (go ?_)
 refine atB hi (go ?_)
 refine Yy (show bs[i]? = some bs[i] by simp [hi]) (go ?_)
 refine Qo (go ?_)
 all_goals exact cb ⟨by simp,by rw [List.map_set];rfl⟩ (by (refine go ?_; try trivial))
theorem ZoA (f w : Int) : PSpec Tryz.prog 295 [V.int f,V.int w] (Rng.v ⟨f,w,0,List.replicate 8 []⟩):=by
 refine pspec tab_ok mix Tryz.func295 (by kernel_rfl) rfl rfl ?_
 (refine go ?_; try trivial)
 refine Zoz tab_ok 8 [.lst 3 []] _ rfl (.sl 3 .nil) rfl rfl (by omega) rfl (go ?_)
 refine Qo (go ?_)
 refine cb ⟨rfl,rfl⟩ (go ?_);try trivial
def ZcK (r : Rng) (it : Item) : Rng × Bool:=
 if it.time < r.at r.cur ∨ r.at 8 ≤ it.time then (r,false)
 else
  let i:=((it.time - r.from') / r.width).toNat
  ({ r with bkts:=r.bkts.set i ((r.bkts[i]?).getD [] ++ [it]) },true)
theorem ZqL {r : Rng} (hr : r.Fits) {i : Int} (hi : 0 ≤ i) : r.from' ≤ r.at i:=by
 have:=Int.mul_nonneg hi (show 0 ≤ r.width by have:=hr.w;omega)
 unfold Rng.at;omega
theorem Zk5 {r : Rng} (hr : r.Fits) (hb : r.bkts.length = 8) {t : Int} (h : ¬ (t < r.at r.cur ∨ r.at 8 ≤ t)) : r.from' ≤ t ∧ t ≤ 4611686018427387904 ∧ 0 ≤ (t - r.from') / r.width ∧ ((t - r.from') / r.width).toNat < r.bkts.length:=by
 have h0:=ZqL hr hr.c.1
 have hw:=hr.w
 have hm:=Zev (i:=8) (w:=r.width) (by omega) hw
 have h8 : r.at 8 = r.from' + 8 * r.width:=rfl
 have hf:=hr.f
 refine ⟨by omega,by omega,Int.ediv_nonneg (by omega) (by omega),?_⟩
 have : (t - r.from') / r.width < 8:=Int.ediv_lt_of_lt_mul (by omega) (by omega)
 omega
theorem Zuy (r : Rng) (it : Item) (hr : r.Fits) (hb : r.bkts.length = 8) (hl : ∀ b ∈ r.bkts,b.length < 1000000) : PSpec Tryz.prog 244 [r.v,it.v] (.tup [(ZcK r it).1.v,V.bool (ZcK r it).2]):=by
 refine pspec tab_ok mix Tryz.func244 (by kernel_rfl) rfl rfl ?_
 (refine go ?_; try trivial)
 refine Zn (Zft r hr) (go ?_)
 refine Zf (fun g1=>?_) (fun g1=>?_) <;> (refine go ?_; try trivial)
 · refine Qo ?_
   rw [ZcK,if_pos (.inl g1)]
   (refine go ?_; try trivial)
 refine Zn (ZuW r hr) (go ?_)
 refine Zf (fun g2=>?_) (fun g2=>?_) <;> (refine go ?_; try trivial)
 · refine Qo ?_
   rw [ZcK,if_pos (.inr g2)]
   (refine go ?_; try trivial)
 have g3 : ¬ (it.time < r.at r.cur ∨ r.at 8 ≤ it.time):=by omega
 obtain ⟨q1,q2,q3,q4⟩:=Zk5 hr hb g3
 refine Zh (ZgZ r.from' r.width it.time ⟨hr.f.1,q1,q2⟩ hr.w.1) ?_
 rw [ZcK,if_neg g3]
 dsimp only
 obtain ⟨i,hi⟩ : ∃ i : Nat,(it.time - r.from') / r.width = (i : Int):=⟨_,(Int.toNat_of_nonneg q3).symm⟩
 rw [hi] at q4 ⊢
 rw [Int.toNat_natCast] at q4 ⊢
 obtain ⟨b,hbi⟩:=ZF q4
 have hbl:=hl b (List.mem_of_getElem? hbi)
 rw [hbi,Option.getD_some]
 (refine go ?_; try trivial)
 refine Zcw hbi (go ?_)
 refine Zn (Zhf b) (go ?_)
 refine Zu (ZnS r.bkts i (b ++ [it]) q4 (by omega)) [] [2240] (go ?_)
 refine cb ⟨by simp,by simp [Item.row]⟩ (go ?_)
 refine Qo (go ?_);try trivial
def Zv (r : Rng) : Rng × List Item × Int × Bool:=
 match r.bkts.findIdx? fun b=>decide (0 < b.length) with
 | some i=>(⟨r.from',r.width,i + 1,r.bkts.set i []⟩,(r.bkts[i]?).getD [],r.at i,true)
 | none=>(⟨r.from',r.width,8,r.bkts⟩,[],0,false)
theorem Zr9 (b : List Item) : PSpec Tryz.prog 294 [ZI b] (V.bool (decide (0 < b.length))):=by
 refine pspec tab_ok mix Tryz.func294 (by kernel_rfl) rfl rfl ?_
 (refine go ?_; try trivial)
 exact .same (congrArg (fun z=>V.c (.bool z)) (decide_eq_decide.2 (by simp)))
theorem ZmT (bs : List (List Item)) (hl : bs.length < 1000000) : PSpec Tryz.prog 293 [ZfV bs,.fn (.func 294) [] []] (V.int (match bs.findIdx? fun b=>decide (0 < b.length) with | some i=>(i : Int) | none=>-1)):=by
 refine pspec tab_ok mix Tryz.func293 (by kernel_rfl) rfl rfl ?_
 (refine go ?_; try trivial)
 refine Y3 tab_ok mix [0,1,7] [] (fun i : Nat=>[(8,V.int i)]) (fun i=>[]) (fun i=>i ≤ bs.length ∧ ∀ x ∈ bs.take i,¬ 0 < x.length) (fun i=>bs.length - i) [] 0 rfl ⟨by omega,by simp⟩ (by (refine go ?_; try trivial)) ?_
 rintro i ⟨h1,h2⟩
 (refine go ?_; try trivial)
 refine Zf (fun g=>?_) (fun g=>?_) <;> (refine go ?_; try trivial)
 · simp at g
   obtain ⟨x,hx⟩:=ZF g
   refine Zcw hx (go ?_)
   refine Zh (Zr9 x) (go ?_)
   refine Zf (fun e=>?_) (fun e=>?_) <;> (refine go ?_; try trivial)
   · have hfi : bs.findIdx? (fun b=>decide (0 < b.length)) = some i:=by
      rw [List.findIdx?_eq_some_iff_getElem]
      obtain ⟨hl',hx'⟩:=List.getElem?_eq_some_iff.1 hx
      refine ⟨hl',by rw [hx'];simpa using e,fun j hj=>?_⟩
      have:=h2 bs[j] (List.mem_take_iff_getElem.2 ⟨j,by omega,rfl⟩)
      simpa using this
     exact .same (by rw [hfi])
   · refine .mk [] (i + 1) ⟨by omega,?_⟩ (by omega) ?_
     · rw [List.take_add_one,hx]
       intro y hy
       rcases List.mem_append.1 hy with hy | hy
       · exact h2 y hy
       · simp at hy;subst hy;exact e
     · (refine go ?_; try trivial)
 · have e : i = bs.length:=by simp at g;omega
   subst e
   rw [List.take_length] at h2
   have hfi : bs.findIdx? (fun b=>decide (0 < b.length)) = none:=List.findIdx?_eq_none_iff.2 fun x hx=>by simpa using h2 x hx
   exact .same (by rw [hfi])
theorem Zt4 (r : Rng) (hr : r.Fits) (hb : r.bkts.length = 8) : PSpec Tryz.prog 272 [r.v] (.tup [(Zv r).1.v,ZI (Zv r).2.1,V.int (Zv r).2.2.1,V.bool (Zv r).2.2.2]):=by
 refine pspec tab_ok mix Tryz.func272 (by kernel_rfl) rfl rfl ?_
 (refine go ?_; try trivial)
 refine Zh (ZmT r.bkts (by omega)) ?_
 cases hf : r.bkts.findIdx? fun b=>decide (0 < b.length) with
 | none=>
  have e : Zv r = (⟨r.from',r.width,8,r.bkts⟩,[],0,false):=by unfold Zv;rw [hf]
  rw [e]
  (refine go ?_; try trivial)
  refine Qo (go ?_);try trivial
 | some i=>
  obtain ⟨hi,_,_⟩:=List.findIdx?_eq_some_iff_getElem.1 hf
  have e : Zv r = (⟨r.from',r.width,i + 1,r.bkts.set i []⟩,r.bkts[i],r.at i,true):=by unfold Zv;rw [hf];simp [hi]
  rw [e]
  (refine go ?_; try trivial)
  refine QI i r.bkts[i] rfl (by simp [hi]) (go ?_)
  refine Zs5 (Zpa r.bkts i [] hi (by omega)) (go ?_)
  refine wrB (by dsimp only;omega) (go ?_)
  refine Znd (ZmB ⟨r.from',r.width,i + 1,r.bkts.set i []⟩ ⟨hr.f,hr.w,by dsimp only;omega⟩ i (by omega)) (go ?_)
  refine Qo (go ?_);try trivial
theorem ZN (a b : Int) : (ZcA a b = -1 ∧ a < b) ∨ (ZcA a b = 0 ∧ a = b) ∨ (ZcA a b = 1 ∧ b < a):=by
 unfold ZcA;split
 · left;omega
 · split
   · right;right;omega
   · right;left;omega
theorem Qh (x y : Item) : Zr x y = - Zr y x:=by
 unfold Zr or2
 rcases ZN x.time y.time with h | h | h <;> rcases ZN x.seq y.seq with g | g | g <;> rcases ZN y.time x.time with h' | h' | h' <;> rcases ZN y.seq x.seq with g' | g' | g' <;> first | (simp [h.1,g.1,h'.1,g'.1];done) | omega
theorem Zda (x y : Item) : Zr x y = 0 ↔ (x.time = y.time ∧ x.seq = y.seq):=by
 unfold Zr or2
 rcases ZN x.time y.time with h | h | h <;> rcases ZN x.seq y.seq with g | g | g <;> simp [h.1,g.1] <;> omega
theorem ZfY (x y z : Item) (h1 : ¬ 0 < Zr x y) (h2 : ¬ 0 < Zr y z) : Zr x z = min (Zr x y) (Zr y z):=by
 have t1:=ZN x.time y.time
 have t2:=ZN y.time z.time
 have t3:=ZN x.time z.time
 have s1:=ZN x.seq y.seq
 have s2:=ZN y.seq z.seq
 have s3:=ZN x.seq z.seq
 unfold Zr or2 at *
 generalize ZcA x.time y.time = a1 at *
 generalize ZcA y.time z.time = a2 at *
 generalize ZcA x.time z.time = a3 at *
 generalize ZcA x.seq y.seq = b1 at *
 generalize ZcA y.seq z.seq = b2 at *
 generalize ZcA x.seq z.seq = b3 at *
 have e1 : min (if a1 = 0 then b1 else a1) (if a2 = 0 then b2 else a2) = (if (if a1 = 0 then b1 else a1) ≤ (if a2 = 0 then b2 else a2) then (if a1 = 0 then b1 else a1) else (if a2 = 0 then b2 else a2)):=rfl
 rw [e1]
 by_cases q1 : a1 = 0 <;> by_cases q2 : a2 = 0 <;> by_cases q3 : a3 = 0 <;> simp only [q1,q2,q3,if_true,if_false] at h1 h2 ⊢ <;> split <;> omega
abbrev Ev:=Item
instance : Inhabited Ev:=⟨⟨0,0,0⟩⟩
abbrev Ev.row (x : Ev) : List D:=Item.row x
abbrev Ev.v (x : Ev) : V:=Item.v x
abbrev Zj (x y : Ev) : Int:=Zr x y
def KOk (x : Ev) : Prop:=True
theorem Qv (x y : Ev) (hx : KOk x) : PSpec Tryz.prog 84 [x.v,y.v] (V.int (Zj x y)):=Za4 x y
theorem Zkl (x y : Ev) : Zj x y = - Zj y x:=Qh x y
theorem ZjE (x y : Ev) : Zj x y = 0 ↔ (x.time = y.time ∧ x.seq = y.seq):=Zda x y
theorem ZiI (x y z : Ev) (h1 : ¬ 0 < Zj x y) (h2 : ¬ 0 < Zj y z) : Zj x z = min (Zj x y) (Zj y z):=ZfY x y z h1 h2
def Zdb (R : List Ev) (j : Nat) : List Ev:=(R.set (j + 1) (R.getD j default)).set j (R.getD (j + 1) default)
def Zmo (a : Nat) : Nat → List Ev → List Ev
 | 0,R=>R
 | j + 1,R=>if a < j + 1 ∧ Zj (R.getD (j + 1) default) (R.getD j default) < 0 then Zmo a j (Zdb R j) else R
def Qi (a : Nat) : Nat → Nat → List Ev → List Ev
 | 0,_,R=>R
 | n + 1,i,R=>Qi a n (i + 1) (Zmo a i R)
def Qp (R : List Ev) : Prop:=∀ x ∈ R,KOk x
theorem Zpo (R : List Ev) (j : Nat) : (Zdb R j).length = R.length:=by simp [Zdb]
theorem ZhL {R : List Ev} {j : Nat} (h : Qp R) : Qp (Zdb R j):=fun _ _=>trivial
def Zo1 : V:=.fn (.func 84) [] []
theorem ZfA (R : List Ev) (a b : Nat) (hab : a ≤ b) (hb : b ≤ R.length) (hl : R.length < 9223372036854775807) (hk : Qp R) :
 LSpec Tryz.prog 211 [.ac 0 3 R.length,V.int a,V.int b,Zo1] [(0,.dat 3 (R.map Ev.row))] 1 (.tup []) [(0,.dat 3 ((Qi a (b - (a + 1)) (a + 1) R).map Ev.row))] 1:=by
 refine lspec tab_ok mix Tryz.func211 (by kernel_rfl) (by rfl) (by rfl) (by rfl) (by rfl) ?_
 (refine go ?_; try trivial)
 refine ZbA tab_ok mix [0,1,2,3] [] (fun (i : Nat) (R : List Ev)=>[(8,V.int i)]) (fun i R=>[(0,.dat 3 (R.map Ev.row))])
  (fun i R1=>a < i ∧ R1.length = R.length ∧ Qp R1 ∧ Qi a (b - i) i R1 = Qi a (b - (a + 1)) (a + 1) R) (fun i R=>b - i) [] (a + 1) R rfl ⟨by omega,rfl,hk,rfl⟩ (by (refine go ?_; try trivial)) ?_
 rintro i R1 ⟨h1,h3,h4,h5⟩
 (refine go ?_; try trivial)
 refine Zf (fun h=>?_) (fun h=>?_) <;> (refine go ?_; try trivial)
 · refine ZbA tab_ok mix [0,1,2,3,8] [] (fun (j : Nat) (R : List Ev)=>[(9,V.int j)]) (fun j R=>[(0,.dat 3 (R.map Ev.row))])
    (fun j R2=>j ≤ i ∧ R2.length = R.length ∧ Qp R2 ∧ Zmo a j R2 = Zmo a i R1) (fun j R=>j) [] i R1 rfl ⟨by omega,h3,h4,rfl⟩ (by (refine go ?_; try trivial)) ?_
   rintro j R2 ⟨g1,g2,g3,g4⟩
   (refine go ?_; try trivial)
   refine Zf (fun h6=>?_) (fun h6=>?_) <;> (refine go ?_; try trivial)
   · have jb : j < R.length:=by omega
     obtain ⟨m,rfl⟩ : ∃ m,j = m + 1:=⟨j - 1,by omega⟩
     obtain ⟨x,hx⟩ : ∃ x,R2[m + 1]? = some x:=⟨R2[m + 1],by simp [g2,jb]⟩
     obtain ⟨y,hy⟩ : ∃ y,R2[m]? = some y:=⟨R2[m]'(by omega),by simp⟩
     refine Z7 (m + 1) rfl (by omega) (go ?_)
     refine Yy (x:=x) (by simpa using hx) (go ?_)
     refine Z7 m (by omega) (by omega) (go ?_)
     refine Yy (x:=y) (by simpa using hy) (go ?_)
     refine Zn (Qv x y (g3 x (List.mem_of_getElem? hx))) (go ?_)
     have ex : R2.getD (m + 1) default = x:=by simp [List.getD_eq_getElem?_getD,hx]
     have ey : R2.getD m default = y:=by simp [List.getD_eq_getElem?_getD,hy]
     rw [Zmo,ex,ey] at g4
     refine Zf (fun hc=>?_) (fun hc=>?_) <;> (refine go ?_; try trivial)
     · refine Z7 m (by omega) (by omega) (go ?_)
       refine Yy (x:=y) (by simpa using hy) (go ?_)
       refine Z7 (m + 1) rfl (by omega) (go ?_)
       refine Yy (x:=x) (by simpa using hx) (go ?_)
       refine Z7 (m + 1) rfl (by omega) (go ?_)
       refine Yy (x:=x) (by simpa using hx) (go ?_)
       refine Z7 m (by omega) (by omega) (go ?_)
       refine Y6 y.row (by simp [List.getElem?_set,hy]) (go ?_)
       rw [if_pos ⟨by omega,hc⟩] at g4
       refine .mk [] m (Zdb R2 m) ⟨by omega,by rw [Zpo];exact g2,ZhL g3,g4⟩ (by dsimp only;omega) (go ?_)
       refine cb ?_ trivial
       rw [Zdb,ex,ey,List.map_set,List.map_set]
       rfl
     · refine .mk [] (i + 1) R2 ⟨by omega,g2,g3,?_⟩ (by dsimp only;omega) ?_
       · rw [if_neg (fun h=>hc h.2)] at g4
         rw [show b - i = (b - (i + 1)) + 1 by omega,Qi,← g4] at h5
         exact h5
       · (refine go ?_; try trivial)
   · refine .mk [] (i + 1) R2 ⟨by omega,g2,g3,?_⟩ (by dsimp only;omega) ?_
     · have g4' : R2 = Zmo a i R1:=by
        rw [← g4]
        cases j with
        | zero=>rfl
        | succ m=>rw [Zmo,if_neg (fun h=>h6 (by omega))]
       rw [show b - i = (b - (i + 1)) + 1 by omega,Qi,← g4'] at h5
       exact h5
     · (refine go ?_; try trivial)
 · rw [show b - i = 0 by omega,Qi] at h5
   refine .mk [] (go ?_)
   rw [h5]
   exact cb rfl trivial
theorem Qj {α : Type} {pre X post : List α} {n i : Nat} {x : α} (hn : n = pre.length) (h : X[i]? = some x) : (pre ++ (X ++ post))[n + i]? = some x:=by
 subst hn
 rw [List.getElem?_append_right (by omega),show pre.length + i - pre.length = i by omega,List.getElem?_append_left (List.getElem?_eq_some_iff.1 h).1]
 exact h
theorem ZcW {α : Type} {pre X post : List α} {n i : Nat} {x : α} (hn : n = pre.length) (h : i < X.length) : (pre ++ (X ++ post)).set (n + i) x = pre ++ (X.set i x ++ post):=by
 subst hn
 rw [List.set_append_right _ _ (by omega),show pre.length + i - pre.length = i by omega,List.set_append_left _ _ h]
def Qn {α : Type} (i : Nat) (X Y : List α) : List α:=Y.take i ++ X.drop i
theorem Zb4 {α : Type} {i : Nat} {X Y : List α} (h : X.length = Y.length) (hi : i ≤ X.length) : (Qn i X Y).length = X.length:=by
 simp [Qn];omega
theorem Zg7 {α : Type} {i : Nat} {X Y : List α} (h : X.length = Y.length) (hi : i < X.length) : (Qn i X Y)[i]? = X[i]?:=by
 unfold Qn
 rw [List.getElem?_append_right (by simp;omega),List.getElem?_drop]
 congr 1
 simp;omega
theorem Zgv {α : Type} {i : Nat} {X Y : List α} {y : α} (h : X.length = Y.length) (hy : Y[i]? = some y) : (Qn i X Y).set i y = Qn (i + 1) X Y:=by
 have hi:=(List.getElem?_eq_some_iff.1 hy).1
 obtain ⟨x,hx⟩ : ∃ x,X[i]? = some x:=⟨X[i]'(by omega),by simp⟩
 unfold Qn
 rw [Zb3 hx,List.take_add_one,hy,List.set_append_right _ _ (by rw [List.length_take];omega),show i - (Y.take i).length = 0 by rw [List.length_take];omega]
 simp
theorem Zhx {α : Type} {X Y : List α} (h : X.length = Y.length) : Qn X.length X Y = Y:=by
 unfold Qn
 rw [h,List.take_length,← h,List.drop_length,List.append_nil]
theorem Zd2 {R : List Ev} {i j : Nat} {x y : Ev} : ((R.map Ev.row).set i x.row).set j y.row = ((R.set i x).set j y).map Ev.row:=by rw [List.map_set,List.map_set]
theorem Zd4 (pre X mid Y post : List Ev) (n a b : Nat) (ha : a = pre.length) (hb : b = a + X.length + mid.length) (hX : X.length = n) (hY : Y.length = n) (len : Nat) (hlen : len = (pre ++ (X ++ (mid ++ (Y ++ post)))).length) (hl : len < 9223372036854775807) :
 LSpec Tryz.prog 311 [.ac 0 3 len,V.int a,V.int b,V.int n,Zo1] [(0,.dat 3 ((pre ++ (X ++ (mid ++ (Y ++ post)))).map Ev.row))] 1 (.tup []) [(0,.dat 3 ((pre ++ (Y ++ (mid ++ (X ++ post)))).map Ev.row))] 1:=by
 have hxy : X.length = Y.length:=by omega
 have hlen2 : len = a + n + mid.length + n + post.length:=by rw [hlen];simp;omega
 refine lspec tab_ok mix Tryz.func311 (by kernel_rfl) (by rfl) (by rfl) (by rfl) (by rfl) ?_
 (refine go ?_; try trivial)
 refine Y3 tab_ok mix [0,1,2,3] [] (fun i : Nat=>[(10,V.int i)]) (fun i=>[(0,.dat 3 ((pre ++ (Qn i X Y ++ (mid ++ (Qn i Y X ++ post)))).map Ev.row))]) (fun i=>i ≤ n) (fun i=>n - i) [] 0 rfl (by omega) (by (refine go ?_; try trivial)) ?_
 rintro i h1
 (refine go ?_; try trivial)
 refine Zf (fun h=>?_) (fun h=>?_) <;> (refine go ?_; try trivial)
 · obtain ⟨x,hx⟩ : ∃ x,X[i]? = some x:=⟨X[i]'(by omega),by simp⟩
   obtain ⟨y,hy⟩ : ∃ y,Y[i]? = some y:=⟨Y[i]'(by omega),by simp⟩
   have gx : (pre ++ (Qn i X Y ++ (mid ++ (Qn i Y X ++ post))))[a + i]? = some x:=Qj ha (by rw [Zg7 hxy (by omega)];exact hx)
   have e2 : pre ++ (Qn i X Y ++ (mid ++ (Qn i Y X ++ post))) = (pre ++ Qn i X Y ++ mid) ++ (Qn i Y X ++ post):=by simp
   have hb2 : b = (pre ++ Qn i X Y ++ mid).length:=by simp [Zb4 hxy (by omega : i ≤ X.length)];omega
   have gy : (pre ++ (Qn i X Y ++ (mid ++ (Qn i Y X ++ post))))[b + i]? = some y:=by
    rw [e2];exact Qj hb2 (by rw [Zg7 hxy.symm (by omega)];exact hy)
   refine Z7 (b + i) (by omega) (by omega) (go ?_)
   refine Yy gy (go ?_)
   refine Z7 (a + i) (by omega) (by omega) (go ?_)
   refine Yy gx (go ?_)
   refine Z7 (a + i) (by omega) (by omega) (go ?_)
   refine Yy gx (go ?_)
   refine Z7 (b + i) (by omega) (by omega) (go ?_)
   refine Y6 y.row (by rw [List.getElem?_set_ne (by omega),List.getElem?_map,gy];rfl) (go ?_)
   refine .mk [] (i + 1) (by omega) (by omega) (go ?_)
   refine cb ?_ trivial
   refine (Zd2 (x:=y) (y:=x)).trans (congrArg (List.map Ev.row) ?_)
   rw [ZcW ha (by rw [Zb4 hxy (by omega)];omega),Zgv hxy hy]
   have e3 : pre ++ (Qn (i + 1) X Y ++ (mid ++ (Qn i Y X ++ post))) = (pre ++ Qn (i + 1) X Y ++ mid) ++ (Qn i Y X ++ post):=by simp
   have hb3 : b = (pre ++ Qn (i + 1) X Y ++ mid).length:=by simp [Zb4 hxy (by omega : i + 1 ≤ X.length)];omega
   rw [e3,ZcW hb3 (by rw [Zb4 hxy.symm (by omega)];omega),Zgv hxy.symm hx]
   simp
 · have : i = n:=by omega
   subst this
   refine .mk [] (go ?_)
   refine cb ?_ trivial
   rw [← hX,Zhx hxy,hX,← hY,Zhx hxy.symm]
theorem ZfI {α : Type} (X : List α) (j : Nat) (h : j ≤ X.length) : ∃ X1 X2,X = X1 ++ X2 ∧ X1.length = j:=⟨X.take j,X.drop j,(List.take_append_drop j X).symm,by rw [List.length_take];omega⟩
theorem Zr6 (P0 X0 Y0 Q0 : List Ev) (a m b : Nat) (ha : a = P0.length) (hm : m = a + X0.length) (hb : b = m + Y0.length) (hX0 : 0 < X0.length) (hY0 : 0 < Y0.length) (len : Nat) (hlen : len = P0.length + X0.length + Y0.length + Q0.length) (hl : len < 9223372036854775807) :
 LSpec Tryz.prog 310 [.ac 0 3 len,V.int a,V.int m,V.int b,Zo1] [(0,.dat 3 ((P0 ++ (X0 ++ (Y0 ++ Q0))).map Ev.row))] 1 (.tup []) [(0,.dat 3 ((P0 ++ (Y0 ++ (X0 ++ Q0))).map Ev.row))] 1:=by
 refine lspec tab_ok mix Tryz.func310 (by kernel_rfl) (by rfl) (by rfl) (by rfl) (by rfl) ?_
 (refine go ?_; try trivial)
 refine Ztm tab_ok mix [0,2,4] [] (fun (P X Y Q : List Ev)=>[(10,V.int X.length),(11,V.int Y.length)]) (fun P X Y Q=>[(0,.dat 3 ((P ++ (X ++ (Y ++ Q))).map Ev.row))])
  (fun P X Y Q=>P.length + X.length = m ∧ 0 < X.length ∧ 0 < Y.length ∧ P.length + X.length + Y.length + Q.length = len ∧ P ++ (Y ++ (X ++ Q)) = P0 ++ (Y0 ++ (X0 ++ Q0))) (fun P X Y Q=>X.length + Y.length) [] P0 X0 Y0 Q0 rfl ⟨by omega,hX0,hY0,by omega,rfl⟩ (by (refine go ?_; try trivial)) ?_
 rintro P X Y Q ⟨h1,h2,h3,h4,h5⟩
 (refine go ?_; try trivial)
 refine Za3 (fun h=>?_) (fun h=>?_) <;> (refine go ?_; try trivial)
 · refine Zf (fun g=>?_) (fun g=>?_) <;> (refine go ?_; try trivial)
   · obtain ⟨X1,X2,rfl,hl1⟩:=ZfI X Y.length (by omega)
     have hx:=@List.length_append _ X1 X2
     refine Za (Zd4 P X1 X2 Y Q X1.length P.length (P.length + X1.length + X2.length) rfl rfl rfl hl1.symm len (by simp;omega) hl) [some 0] [] rfl (go ?_)
     refine .mk [] (P ++ Y) X2 X1 Q ⟨by simp;omega,by omega,by omega,by simp;omega,?_⟩ (by dsimp only;omega) ?_
     · rw [← h5];simp
     · (refine go ?_; try trivial)
   · obtain ⟨Y1,Y2,rfl,hl1⟩:=ZfI Y (Y.length - X.length) (by omega)
     have hy:=@List.length_append _ Y1 Y2
     refine Za (Zd4 P X Y1 Y2 Q X.length P.length (P.length + X.length + Y1.length) rfl rfl rfl (by omega) len (by simp;omega) hl) [some 0] [] rfl (go ?_)
     refine .mk [] P Y2 Y1 (X ++ Q) ⟨by omega,by omega,by omega,by simp;omega,?_⟩ (by dsimp only;omega) ?_
     · rw [← h5];simp
     · (refine go ?_; try trivial)
 · refine Za (Zd4 P X [] Y Q X.length P.length (P.length + X.length) rfl (by simp) rfl (by omega) len (by simp;omega) hl) [some 0] [] rfl (go ?_)
   refine .mk [] (go ?_)
   refine cb ?_ trivial
   rw [← h5];simp
theorem cmpEvC : Cmp Zj:=⟨Zkl,fun x y z h1 h2=>ZiI x y z h1 h2⟩
theorem Zak (x : Ev) : Zj x x = 0:=(ZjE x x).2 ⟨rfl,rfl⟩
theorem Zcc {α : Type} {c : α → α → Int} {B : List α} (hB : Srt c B) (refl : ∀ x,le c x x) {r : Nat} {y : α} (hy : B[r]? = some y) : ∀ z ∈ B.take (r + 1),le c z y:=by
 intro z hz
 obtain ⟨i,hi,rfl⟩:=List.getElem_of_mem hz
 have hr:=(List.getElem?_eq_some_iff.1 hy).1
 have hy':=(List.getElem?_eq_some_iff.1 hy).2
 rw [List.length_take] at hi
 rw [List.getElem_take]
 by_cases e : i = r
 · subst e;rw [hy'];exact refl y
 · rw [← hy'];exact List.pairwise_iff_getElem.1 hB i r (by omega) hr (by omega)
theorem ZdA {α : Type} {c : α → α → Int} {B : List α} (hB : Srt c B) (refl : ∀ x,le c x x) {r : Nat} {y : α} (hy : B[r]? = some y) : ∀ z ∈ B.drop r,le c y z:=by
 intro z hz
 obtain ⟨i,hi,rfl⟩:=List.getElem_of_mem hz
 have hr:=(List.getElem?_eq_some_iff.1 hy).1
 have hy':=(List.getElem?_eq_some_iff.1 hy).2
 rw [List.length_drop] at hi
 rw [List.getElem_drop]
 by_cases e : i = 0
 · subst e;simp only [Nat.add_zero];rw [hy'];exact refl y
 · rw [← hy'];exact List.pairwise_iff_getElem.1 hB r (r + i) hr (by omega) (by omega)
theorem YH (x : Ev) : le Zj x x:=by unfold le;rw [Zak];omega
theorem ZrB {α : Type} {c : α → α → Int} {B : List α} {x : α} (p : Nat) (h1 : ∀ y ∈ B.take p,c y x < 0) (h2 : ∀ y ∈ B.drop p,¬ c y x < 0) : mrg c [x] B = B.take p ++ x :: B.drop p:=by
 have e:=Yw (c:=c) [] (B.take p) [x] (B.drop p) (fun y hy x' hx=>by simp at hx;subst hx;exact h1 y hy) (by simp)
 rw [List.nil_append,List.take_append_drop] at e
 have e2:=Yw (c:=c) [x] [] [] (B.drop p) (by simp) (fun x' hx y hy=>by simp at hx;subst hx;exact h2 y hy)
 rw [List.append_nil,List.nil_append,QJ] at e2
 rw [e,e2]
 simp [mrg]
theorem Zdm {α : Type} {c : α → α → Int} {A : List α} {y : α} (p : Nat) (h1 : ∀ x ∈ A.take p,¬ c y x < 0) (h2 : ∀ x ∈ A.drop p,c y x < 0) : mrg c A [y] = A.take p ++ y :: A.drop p:=by
 have e:=Yw (c:=c) (A.take p) [] (A.drop p) [y] (by simp) (fun x hx y' hy=>by simp at hy;subst hy;exact h1 x hx)
 rw [List.nil_append,List.take_append_drop,QJ] at e
 have e2:=Yw (c:=c) [] [y] (A.drop p) [] (fun y' hy x hx=>by simp at hy;subst hy;exact h2 x hx) (by simp)
 rw [List.append_nil,List.nil_append,QJ] at e2
 rw [e,e2]
 simp [mrg]
theorem wrU {n : Int} {K : Int → Prop} (h : 0 ≤ n ∧ n ≤ 9223372036854775807) (k : K n) : WrB .u64 n K:=⟨by
 have e : wr .u64 n = n:=by
  have e : wr .u64 n = IntKind.wrap .u64 n:=rfl
  rw [e,IntKind.wrap_u64];omega
 rw [e];exact k⟩
theorem ZtD {i j : Nat} {K : Int → Prop} (r : Nat) (hr : (i + j) / 2 = r) (h : i + j < 9223372036854775808) (k : K (r : Int)) : WrB .i64 (Int.fdiv ((i : Int) + (j : Int)) (2 ^ (min (Int.toNat 1) (IntKind.bits .u64)))) K:=by
 have e : (2 : Int) ^ (min (Int.toNat 1) (IntKind.bits .u64)) = 2:=by decide
 rw [e]
 have e2 : Int.fdiv ((i : Int) + (j : Int)) 2 = (r : Int):=by
  rw [Int.fdiv_eq_ediv_of_nonneg _ (by omega)];omega
 rw [e2]
 exact wrB (by omega) k
theorem Zhb {α : Type} {B : List α} {x : α} {t : Nat} (ht : t ≤ B.length) : (B.take t ++ x :: B.drop t)[t]? = some x:=by
 rw [List.getElem?_append_right (by rw [List.length_take];omega),List.length_take,Nat.min_eq_left ht];simp
theorem Zj5 {α : Type} {B : List α} {x y : α} {t : Nat} (hy : B[t]? = some y) : (B.take t ++ x :: B.drop t)[t + 1]? = some y:=by
 have ht:=(List.getElem?_eq_some_iff.1 hy).1
 rw [List.getElem?_append_right (by rw [List.length_take];omega),List.length_take,Nat.min_eq_left (by omega),show t + 1 - t = 1 by omega,Zb3 hy];rfl
theorem Zm1 {α : Type} {B : List α} {x y : α} {t : Nat} (hy : B[t]? = some y) : ((B.take t ++ x :: B.drop t).set t y).set (t + 1) x = B.take (t + 1) ++ x :: B.drop (t + 1):=by
 have ht:=(List.getElem?_eq_some_iff.1 hy).1
 have hl : (B.take t).length = t:=by rw [List.length_take];omega
 rw [Zb3 hy,List.take_add_one,hy,List.set_append_right _ _ (by omega),List.set_append_right _ _ (by omega),hl,show t - t = 0 by omega,show t + 1 - t = 1 by omega]
 simp
theorem Zj2 {α : Type} {B : List α} {x y : α} {t : Nat} (hy : B[t]? = some y) : (B.take (t + 1) ++ x :: B.drop (t + 1))[t]? = some y:=by
 have ht:=(List.getElem?_eq_some_iff.1 hy).1
 rw [List.getElem?_append_left (by rw [List.length_take];omega),List.getElem?_take_of_lt (by omega)];exact hy
theorem Zkj {α : Type} {B : List α} {x y : α} {t : Nat} (hy : B[t]? = some y) : ((B.take (t + 1) ++ x :: B.drop (t + 1)).set (t + 1) y).set t x = B.take t ++ x :: B.drop t:=by
 have ht:=(List.getElem?_eq_some_iff.1 hy).1
 have hl : (B.take t).length = t:=by rw [List.length_take];omega
 rw [Zb3 hy,List.take_add_one,hy]
 rw [List.append_assoc,List.set_append_right _ _ (by omega),List.set_append_right _ _ (by omega),hl,show t - t = 0 by omega,show t + 1 - t = 1 by omega]
 simp
theorem ZmO (pre : List Ev) (x : Ev) (B post : List Ev) (hB : Srt Zj B) (kB : Qp B) (a m b len : Nat) (ha : a = pre.length) (hm : m = a + 1) (hb : b = m + B.length) (hlen : len = pre.length + 1 + B.length + post.length) (hl : len < 4611686018427387904) :
 LSpec Tryz.prog 309 [.ac 0 3 len,V.int a,V.int m,V.int b,Zo1] [(0,.dat 3 ((pre ++ ([x] ++ (B ++ post))).map Ev.row))] 1 (.tup []) [(0,.dat 3 ((pre ++ (mrg Zj [x] B ++ post)).map Ev.row))] 1:=by
 refine lspec tab_ok mix Tryz.func309 (by kernel_rfl) (by rfl) (by rfl) (by rfl) (by rfl) ?_
 (refine go ?_; try trivial)
 refine Zl4 (by simp;omega) (go ?_)
 refine ZbA tab_ok mix [0,1,4] [0] (fun (p q : Nat)=>[(10,V.int (m + p : Nat)),(11,V.int (m + q : Nat))]) (fun p q=>[])
  (fun p q=>p ≤ q ∧ q ≤ B.length ∧ (∀ y ∈ B.take p,Zj y x < 0) ∧ (∀ y ∈ B.drop q,¬ Zj y x < 0)) (fun p q=>q - p) [] 0 B.length rfl ⟨by omega,by omega,by simp,by simp⟩ (by (refine go ?_; try trivial)) ?_
 rintro p q ⟨h1,h2,h3,h4⟩
 (refine go ?_; try trivial)
 refine Zf (fun g=>?_) (fun g=>?_) <;> (refine go ?_; try trivial)
 · have hr1 : p ≤ (p + q) / 2:=by omega
   have hr2 : (p + q) / 2 < q:=by omega
   have hrm : (m + p + (m + q)) / 2 = m + (p + q) / 2:=by omega
   generalize (p + q) / 2 = r at hr1 hr2 hrm
   obtain ⟨y,hy⟩:=ZF (show r < B.length by omega)
   have gx : (pre ++ ([x] ++ (B ++ post)))[a]? = some x:=Qj (i:=0) ha rfl
   have gy : (pre ++ ([x] ++ (B ++ post)))[m + r]? = some y:=by
    rw [← List.append_assoc pre]
    exact Qj (by simp;omega) hy
   have ky : KOk y:=kB y (List.mem_of_getElem? hy)
   refine wrU (by omega) (go ?_)
   refine ZtD (m + r) hrm (by omega) (go ?_)
   refine Z7 (m + r) rfl (by omega) (go ?_)
   refine Yy gy (go ?_)
   refine Z7 a rfl (by omega) (go ?_)
   refine Yy gx (go ?_)
   refine Zn (Qv y x ky) (go ?_)
   refine Zf (fun k=>?_) (fun k=>?_) <;> (refine go ?_; try trivial)
   · refine .mk [] (r + 1) q ⟨by omega,h2,fun z hz=>cmpEvC.le_lt (Zcc hB YH hy z hz) k,h4⟩ (by dsimp only;omega) (go ?_);try trivial
   · refine .mk [] p r ⟨by omega,by omega,h3,fun z hz=>cmpEvC.le_trans k (ZdA hB YH hy z hz)⟩ (by dsimp only;omega) (go ?_);try trivial
 · have hpq : q = p:=by omega
   subst hpq
   have em:=ZrB q h3 h4
   refine Y3 tab_ok mix [0,10] [] (fun t : Nat=>[(13,V.int (a + t : Nat))]) (fun t=>[(0,.dat 3 ((pre ++ ((B.take t ++ x :: B.drop t) ++ post)).map Ev.row))]) (fun t=>t ≤ q) (fun t=>q - t) [] 0 rfl (by omega) (by (refine go ?_; try trivial)) ?_
   rintro t ht
   (refine go ?_; try trivial)
   refine Zf (fun k=>?_) (fun k=>?_) <;> (refine go ?_; try trivial)
   · obtain ⟨y,hy⟩:=ZF (show t < B.length by omega)
     have gx : (pre ++ ((B.take t ++ x :: B.drop t) ++ post))[a + t]? = some x:=Qj ha (Zhb (by omega))
     have gy : (pre ++ ((B.take t ++ x :: B.drop t) ++ post))[a + (t + 1)]? = some y:=Qj ha (Zj5 hy)
     have hli : (B.take t ++ x :: B.drop t).length = B.length + 1:=by simp;omega
     refine Z7 (a + (t + 1)) (by omega) (by omega) (go ?_)
     refine Yy gy (go ?_)
     refine Z7 (a + t) rfl (by omega) (go ?_)
     refine Yy gx (go ?_)
     refine Z7 (a + t) rfl (by omega) (go ?_)
     refine Yy gx (go ?_)
     refine Z7 (a + (t + 1)) (by omega) (by omega) (go ?_)
     refine Y6 y.row (by rw [List.getElem?_set_ne (by omega),List.getElem?_map,gy];rfl) (go ?_)
     refine .mk [] (t + 1) (by omega) (by omega) (go ?_)
     refine cb ?_ trivial
     refine (Zd2 (x:=y) (y:=x)).trans (congrArg (List.map Ev.row) ?_)
     rw [ZcW ha (by omega),ZcW ha (by rw [List.length_set];omega),Zm1 hy]
   · have : t = q:=by omega
     subst this
     refine .mk [] (go ?_)
     exact cb (by rw [em]) trivial
theorem Zmt (pre A : List Ev) (y : Ev) (post : List Ev) (hA0 : 1 < A.length) (hA : Srt Zj A) (ky : KOk y) (a m b len : Nat) (ha : a = pre.length) (hm : m = a + A.length) (hb : b = m + 1) (hlen : len = pre.length + A.length + 1 + post.length) (hl : len < 4611686018427387904) :
 LSpec Tryz.prog 309 [.ac 0 3 len,V.int a,V.int m,V.int b,Zo1] [(0,.dat 3 ((pre ++ (A ++ ([y] ++ post))).map Ev.row))] 1 (.tup []) [(0,.dat 3 ((pre ++ (mrg Zj A [y] ++ post)).map Ev.row))] 1:=by
 refine lspec tab_ok mix Tryz.func309 (by kernel_rfl) (by rfl) (by rfl) (by rfl) (by rfl) ?_
 (refine go ?_; try trivial)
 refine Zk9 (by simp;omega) (go ?_)
 refine Zl4 (by simp;omega) (go ?_)
 refine ZbA tab_ok mix [0,2,4] [0] (fun (p q : Nat)=>[(14,V.int (a + p : Nat)),(15,V.int (a + q : Nat))]) (fun p q=>[])
  (fun p q=>p ≤ q ∧ q ≤ A.length ∧ (∀ x ∈ A.take p,¬ Zj y x < 0) ∧ (∀ x ∈ A.drop q,Zj y x < 0)) (fun p q=>q - p) [] 0 A.length rfl ⟨by omega,by omega,by simp,by simp⟩ (by (refine go ?_; try trivial)) ?_
 rintro p q ⟨h1,h2,h3,h4⟩
 (refine go ?_; try trivial)
 refine Zf (fun g=>?_) (fun g=>?_) <;> (refine go ?_; try trivial)
 · have hr1 : p ≤ (p + q) / 2:=by omega
   have hr2 : (p + q) / 2 < q:=by omega
   have hrm : (a + p + (a + q)) / 2 = a + (p + q) / 2:=by omega
   generalize (p + q) / 2 = r at hr1 hr2 hrm
   obtain ⟨x,hx⟩:=ZF (show r < A.length by omega)
   have gx : (pre ++ (A ++ ([y] ++ post)))[a + r]? = some x:=Qj ha hx
   have gy : (pre ++ (A ++ ([y] ++ post)))[m]? = some y:=by
    rw [← List.append_assoc pre]
    exact Qj (i:=0) (by simp;omega) rfl
   refine wrU (by omega) (go ?_)
   refine ZtD (a + r) hrm (by omega) (go ?_)
   refine Z7 m rfl (by omega) (go ?_)
   refine Yy gy (go ?_)
   refine Z7 (a + r) rfl (by omega) (go ?_)
   refine Yy gx (go ?_)
   refine Zn (Qv y x ky) (go ?_)
   refine Zf (fun k=>?_) (fun k=>?_) <;> (refine go ?_; try trivial)
   · refine .mk [] p r ⟨by omega,by omega,h3,fun z hz=>cmpEvC.lt_le k (ZdA hA YH hx z hz)⟩ (by dsimp only;omega) (go ?_);try trivial
   · refine .mk [] (r + 1) q ⟨by omega,h2,fun z hz=>cmpEvC.le_trans (Zcc hA YH hx z hz) k,h4⟩ (by dsimp only;omega) (go ?_);try trivial
 · have hpq : q = p:=by omega
   subst hpq
   have em:=Zdm q h3 h4
   refine Y3 tab_ok mix [0,14] [] (fun t : Nat=>[(17,V.int (a + t : Nat))]) (fun t=>[(0,.dat 3 ((pre ++ ((A.take t ++ y :: A.drop t) ++ post)).map Ev.row))]) (fun t=>q ≤ t ∧ t ≤ A.length) (fun t=>t) [] A.length rfl ⟨by omega,by omega⟩ (by (refine go ?_; try trivial)) ?_
   rintro t ⟨ht1,ht⟩
   (refine go ?_; try trivial)
   refine Zf (fun k=>?_) (fun k=>?_) <;> (refine go ?_; try trivial)
   · obtain ⟨u,rfl⟩ : ∃ u,t = u + 1:=⟨t - 1,by omega⟩
     obtain ⟨x,hx⟩:=ZF (show u < A.length by omega)
     have gy : (pre ++ ((A.take (u + 1) ++ y :: A.drop (u + 1)) ++ post))[a + (u + 1)]? = some y:=Qj ha (Zhb ht)
     have gx : (pre ++ ((A.take (u + 1) ++ y :: A.drop (u + 1)) ++ post))[a + u]? = some x:=Qj ha (Zj2 hx)
     have hli : (A.take (u + 1) ++ y :: A.drop (u + 1)).length = A.length + 1:=by simp;omega
     refine Z7 (a + u) (by omega) (by omega) (go ?_)
     refine Yy gx (go ?_)
     refine Z7 (a + (u + 1)) rfl (by omega) (go ?_)
     refine Yy gy (go ?_)
     refine Z7 (a + (u + 1)) rfl (by omega) (go ?_)
     refine Yy gy (go ?_)
     refine Z7 (a + u) (by omega) (by omega) (go ?_)
     refine Y6 x.row (by rw [List.getElem?_set_ne (by omega),List.getElem?_map,gx];rfl) (go ?_)
     refine .mk [] u ⟨by omega,by omega⟩ (by omega) (go ?_)
     refine cb ?_ trivial
     refine (Zd2 (x:=x) (y:=y)).trans (congrArg (List.map Ev.row) ?_)
     rw [ZcW ha (by omega),ZcW ha (by rw [List.length_set];omega),Zkj hx]
   · have : t = q:=by omega
     subst this
     refine .mk [] (go ?_)
     exact cb (by rw [em]) trivial
theorem ZrV {A B : List Ev} (hA : Srt Zj A) (hB : Srt Zj B) {K s : Nat} (h1 : s ≤ A.length) (h2 : s ≤ K) (h3 : K - s ≤ B.length)
 (p1 : ∀ x y,0 < s → K - s < B.length → A[s - 1]? = some x → B[K - s]? = some y → ¬ Zj y x < 0)
 (p2 : ∀ x y,s < A.length → s < K → A[s]? = some x → B[K - 1 - s]? = some y → Zj y x < 0) :
 mrg Zj A B = mrg Zj (A.take s) (B.take (K - s)) ++ mrg Zj (A.drop s) (B.drop (K - s)):=by
 have e:=Yw (c:=Zj) (A.take s) (B.take (K - s)) (A.drop s) (B.drop (K - s)) (fun y hy x hx=>?_) (fun x hx y hy=>?_)
 · rw [List.take_append_drop,List.take_append_drop] at e;exact e
 · have q1 : s < A.length:=by
    have:=List.length_pos_of_mem hx;rw [List.length_drop] at this;omega
   have q2 : s < K:=by
    have:=List.length_pos_of_mem hy;rw [List.length_take] at this;omega
   obtain ⟨x0,hx0⟩:=ZF q1
   obtain ⟨y0,hy0⟩:=ZF (show K - 1 - s < B.length by omega)
   have hlt:=p2 x0 y0 q1 q2 hx0 hy0
   have hyy:=Zcc hB YH hy0 y (by rw [show K - 1 - s + 1 = K - s by omega];exact hy)
   have hxx:=ZdA hA YH hx0 x hx
   exact cmpEvC.lt_le (cmpEvC.le_lt hyy hlt) hxx
 · have q1 : 0 < s:=by
    have:=List.length_pos_of_mem hx;rw [List.length_take] at this;omega
   have q2 : K - s < B.length:=by
    have:=List.length_pos_of_mem hy;rw [List.length_drop] at this;omega
   obtain ⟨x0,hx0⟩:=ZF (show s - 1 < A.length by omega)
   obtain ⟨y0,hy0⟩:=ZF q2
   have hle:=p1 x0 y0 q1 q2 hx0 hy0
   have hxx:=Zcc hA YH hx0 x (by rw [show s - 1 + 1 = s by omega];exact hx)
   have hyy:=ZdA hB YH hy0 y hy
   exact cmpEvC.le_trans (cmpEvC.le_trans hxx hle) hyy
theorem Zmc {A : List Ev} (hA : Srt Zj A) (s : Nat) : Srt Zj (A.take s) ∧ Srt Zj (A.drop s):=⟨hA.sublist (List.take_sublist _ _),hA.sublist (List.drop_sublist _ _)⟩
theorem Zjb {A : List Ev} (hA : Qp A) (s : Nat) : Qp (A.take s) ∧ Qp (A.drop s):=⟨fun x h=>hA x (List.mem_of_mem_take h),fun x h=>hA x (List.mem_of_mem_drop h)⟩
theorem Zg6 {α : Type} {c : α → α → Int} {A B : List α} (h : A.length = 0 ∨ B.length = 0) : mrg c A B = A ++ B:=by
 rcases h with h | h
 · rw [List.eq_nil_of_length_eq_zero h];rfl
 · rw [List.eq_nil_of_length_eq_zero h,QJ,List.append_nil]
theorem Zne {pre post A B A1 A2 B1 B2 : List Ev} (eA : A = A1 ++ A2) (eB : B = B1 ++ B2) (h : A2.length = 0 ∨ B1.length = 0) : pre ++ (A ++ (B ++ post)) = (pre ++ A1) ++ (B1 ++ (A2 ++ (B2 ++ post))):=by
 rw [eA,eB]
 rcases h with h | h <;> rw [List.eq_nil_of_length_eq_zero h] <;> simp
set_option maxHeartbeats 4000000 in
theorem Zjn : ∀ (N : Nat) (pre A B post : List Ev),A.length + B.length ≤ N → 0 < A.length → 0 < B.length → Srt Zj A → Srt Zj B → Qp A → Qp B → ∀ (a m b len : Nat),a = pre.length → m = a + A.length → b = m + B.length → len = pre.length + A.length + B.length + post.length → len < 4611686018427387904 →
 LSpec Tryz.prog 309 [.ac 0 3 len,V.int a,V.int m,V.int b,Zo1] [(0,.dat 3 ((pre ++ (A ++ (B ++ post))).map Ev.row))] 1 (.tup []) [(0,.dat 3 ((pre ++ (mrg Zj A B ++ post)).map Ev.row))] 1:=by
 intro N
 induction N with
 | zero=>intro pre A B post h1 h2;omega
 | succ N ih=>
 intro pre A B post hN hA0 hB0 hA hB kA kB a m b len ha hm hb hlen hl
 by_cases c1 : A.length = 1
 · obtain ⟨x,rfl⟩:=List.length_eq_one_iff.1 c1
   exact ZmO pre x B post hB kB a m b len ha hm hb hlen hl
 by_cases c2 : B.length = 1
 · obtain ⟨y,rfl⟩:=List.length_eq_one_iff.1 c2
   exact Zmt pre A y post (by omega) hA (kB y (by simp)) a m b len ha hm hb hlen hl
 refine lspec tab_ok mix Tryz.func309 (by kernel_rfl) (by rfl) (by rfl) (by rfl) (by rfl) ?_
 (refine go ?_; try trivial)
 refine Zk9 (by simp;omega) (go ?_)
 refine Zk9 (by simp;omega) (go ?_)
 obtain ⟨K,hK⟩ : ∃ K,(A.length + B.length) / 2 = K:=⟨_,rfl⟩
 have hM : (a + b) / 2 = a + K:=by omega
 obtain ⟨lo,hlo⟩ : ∃ lo,lo = K - B.length:=⟨_,rfl⟩
 obtain ⟨hi,hhi⟩ : ∃ hi,hi = min K A.length:=⟨_,rfl⟩
 refine wrU (by omega) (go ?_)
 refine ZtD (a + K) hM (by omega) ?_
 (refine goj ?_; try trivial)
 refine Zkp tab_ok mix [0,1,2,3,4,18,19] [0] (fun _ : Unit=>[(20,V.int (a + lo : Nat)),(21,V.int (a + hi : Nat))]) (fun _=>[]) (fun _=>True) ?_ ?_
 · (refine go ?_; try trivial)
   refine Zf (fun hmM=>?_) (fun hmM=>?_) <;> (refine go ?_; try trivial)
   · refine .mk [] () trivial (go ?_);try trivial
   · refine .mk [] () trivial (go ?_);try trivial
 rintro ⟨⟩ _
 (refine go ?_; try trivial)
 refine ZbA tab_ok mix [0,1,2,3,4,18,19,22] [0] (fun (s t : Nat)=>[(20,V.int (a + s : Nat)),(21,V.int (a + t : Nat))]) (fun s t=>[])
  (fun s t=>lo ≤ s ∧ s ≤ t ∧ t ≤ hi ∧ (∀ x y,lo < s → A[s - 1]? = some x → B[K - s]? = some y → ¬ Zj y x < 0) ∧ (∀ x y,t < hi → A[t]? = some x → B[K - 1 - t]? = some y → Zj y x < 0)) (fun s t=>t - s) [] lo hi rfl ⟨by omega,by omega,by omega,fun x y h=>by omega,fun x y h=>by omega⟩ (by (refine go ?_; try trivial)) ?_
 rintro s t ⟨h1,h2,h3,h4,h5⟩
 (refine go ?_; try trivial)
 refine Zf (fun g=>?_) (fun g=>?_) <;> (refine goj ?_; try trivial)
 · have hr1 : s ≤ (s + t) / 2:=by omega
   have hr2 : (s + t) / 2 < t:=by omega
   have hrm : (a + s + (a + t)) / 2 = a + (s + t) / 2:=by omega
   generalize (s + t) / 2 = u at hr1 hr2 hrm
   obtain ⟨x,hx⟩:=ZF (show u < A.length by omega)
   obtain ⟨y,hy⟩:=ZF (show K - 1 - u < B.length by omega)
   have gx : (pre ++ (A ++ (B ++ post)))[a + u]? = some x:=Qj ha hx
   have gy : (pre ++ (A ++ (B ++ post)))[m + (K - 1 - u)]? = some y:=by
    rw [← List.append_assoc pre]
    exact Qj (by simp;omega) hy
   refine wrU (by omega) (go ?_)
   refine ZtD (a + u) hrm (by omega) (go ?_)
   refine Z7 (m + (K - 1 - u)) (by omega) (by omega) (go ?_)
   refine Yy gy (go ?_)
   refine Z7 (a + u) rfl (by omega) (go ?_)
   refine Yy gx (go ?_)
   refine Zn (Qv y x (kB y (List.mem_of_getElem? hy))) (go ?_)
   refine Zf (fun k=>?_) (fun k=>?_) <;> (refine go ?_; try trivial)
   · refine .mk [] s u ⟨by omega,by omega,by omega,h4,fun x' y' _ e1 e2=>?_⟩ (by dsimp only;omega) ?_
     · rw [hx] at e1;rw [hy] at e2;cases e1;cases e2;exact k
     · (refine go ?_; try trivial)
   · refine .mk [] (u + 1) t ⟨by omega,by omega,by omega,fun x' y' _ e1 e2=>?_,h5⟩ (by dsimp only;omega) ?_
     · rw [show u + 1 - 1 = u by omega,hx] at e1
       rw [show K - (u + 1) = K - 1 - u by omega,hy] at e2
       cases e1;cases e2;exact k
     · (refine go ?_; try trivial)
 · have hst : s = t:=by omega
   subst hst
   have hcut:=ZrV hA hB (K:=K) (s:=s) (by omega) (by omega) (by omega) (fun x y _ _ e1 e2=>h4 x y (by omega) e1 e2) (fun x y _ _ e1 e2=>h5 x y (by omega) e1 e2)
   obtain ⟨kA1,kA2⟩:=Zjb kA s
   obtain ⟨kB1,kB2⟩:=Zjb kB (K - s)
   obtain ⟨sA1,sA2⟩:=Zmc hA s
   obtain ⟨sB1,sB2⟩:=Zmc hB (K - s)
   have lA1 : (A.take s).length = s:=by rw [List.length_take];omega
   have lA2 : (A.drop s).length = A.length - s:=List.length_drop
   have lB1 : (B.take (K - s)).length = K - s:=by rw [List.length_take];omega
   have lB2 : (B.drop (K - s)).length = B.length - (K - s):=List.length_drop
   have eA : A = A.take s ++ A.drop s:=(List.take_append_drop s A).symm
   have eB : B = B.take (K - s) ++ B.drop (K - s):=(List.take_append_drop (K - s) B).symm
   generalize A.take s = A1 at *
   generalize A.drop s = A2 at *
   generalize B.take (K - s) = B1 at *
   generalize B.drop (K - s) = B2 at *
   refine Zkp tab_ok mix [0,1,2,3,4,18,20,24] [0] (fun _ : Unit=>[(185,V.bool (decide (a + s < m ∧ m < m + (K - s))))]) (fun _=>[]) (fun _=>True) ?_ ?_
   · (refine go ?_; try trivial)
     refine Zf (fun q1=>?_) (fun q1=>?_) <;> (refine go ?_; try trivial)
     · refine .mk [] () trivial (go ?_)
       all_goals exact cb (decide_eq_decide.2 (by omega)) (by (refine go ?_; try trivial))
     · refine .mk [] () trivial (go ?_)
       all_goals exact cb (by simp;omega) (by (refine go ?_; try trivial))
   rintro ⟨⟩ _
   (refine goj ?_; try trivial)
   refine Zkp tab_ok mix [0,1,2,3,4,18,20,24] [] (fun _ : Unit=>[]) (fun _=>[(0,.dat 3 (((pre ++ A1) ++ (B1 ++ (A2 ++ (B2 ++ post)))).map Ev.row))]) (fun _=>True) ?_ ?_
   · (refine go ?_; try trivial)
     refine Zf (fun q1=>?_) (fun q1=>?_) <;> (refine go ?_; try trivial)
     · refine Za (Zr6 (pre ++ A1) A2 B1 (B2 ++ post) (a + s) m (m + (K - s)) (by simp;omega) (by omega) (by omega) (by omega) (by omega) len (by simp;omega) (by omega)) [some 0] [] rfl (go ?_)
       first | (refine cb (by rw [eA,eB];simp) ?_;(refine go ?_; try trivial)) | skip
       refine .mk [] () trivial (go ?_);try trivial
     · refine .mk [] () trivial (go ?_)
       all_goals exact cb (congrArg (List.map Ev.row) (Zne (pre:=pre) (post:=post) eA eB (by omega))) (by (refine go ?_; try trivial))
   rintro ⟨⟩ _
   (refine goj ?_; try trivial)
   refine Zkp tab_ok mix [0,1,2,3,4,18,20,24] [0] (fun _ : Unit=>[(199,V.bool (decide (a < a + s ∧ a + s < a + K)))]) (fun _=>[]) (fun _=>True) ?_ ?_
   · (refine go ?_; try trivial)
     refine Zf (fun q1=>?_) (fun q1=>?_) <;> (refine go ?_; try trivial)
     · refine .mk [] () trivial (go ?_)
       all_goals exact cb (decide_eq_decide.2 (by omega)) (by (refine go ?_; try trivial))
     · refine .mk [] () trivial (go ?_)
       all_goals exact cb (by simp;omega) (by (refine go ?_; try trivial))
   rintro ⟨⟩ _
   (refine goj ?_; try trivial)
   refine Zkp tab_ok mix [0,1,2,3,4,18,20,24] [] (fun _ : Unit=>[]) (fun _=>[(0,.dat 3 ((pre ++ (mrg Zj A1 B1 ++ (A2 ++ (B2 ++ post)))).map Ev.row))]) (fun _=>True) ?_ ?_
   · (refine go ?_; try trivial)
     refine Zf (fun q1=>?_) (fun q1=>?_) <;> (refine go ?_; try trivial)
     · refine Za (ih pre A1 B1 (A2 ++ (B2 ++ post)) (by omega) (by omega) (by omega) sA1 sB1 kA1 kB1 a (a + s) (a + K) len ha (by omega) (by omega) (by simp;omega) hl) [some 0] [] rfl (go ?_)
       refine .mk [] () trivial (go ?_);try trivial
     · have hL : mrg Zj A1 B1 = A1 ++ B1:=Zg6 (by omega)
       refine .mk [] () trivial (go ?_)
       all_goals exact cb (by rw [hL];simp) (by (refine go ?_; try trivial))
   rintro ⟨⟩ _
   (refine goj ?_; try trivial)
   refine Zkp tab_ok mix [0,1,2,3,4,18,20,24] [0] (fun _ : Unit=>[(213,V.bool (decide (a + K < m + (K - s) ∧ m + (K - s) < b)))]) (fun _=>[]) (fun _=>True) ?_ ?_
   · (refine go ?_; try trivial)
     refine Zf (fun q1=>?_) (fun q1=>?_) <;> (refine go ?_; try trivial)
     · refine .mk [] () trivial (go ?_)
       all_goals exact cb (decide_eq_decide.2 (by omega)) (by (refine go ?_; try trivial))
     · refine .mk [] () trivial (go ?_)
       all_goals exact cb (by simp;omega) (by (refine go ?_; try trivial))
   rintro ⟨⟩ _
   (refine go ?_; try trivial)
   refine Zf (fun q1=>?_) (fun q1=>?_) <;> (refine go ?_; try trivial)
   · refine Za (ih (pre ++ mrg Zj A1 B1) A2 B2 post (by omega) (by omega) (by omega) sA2 sB2 kA2 kB2 (a + K) (m + (K - s)) b len (by simp [Zab];omega) (by omega) (by omega) (by simp [Zab];omega) hl) [some 0] [] rfl (go ?_)
     refine .mk [] (go ?_)
     exact cb (by rw [hcut];simp) trivial
   · have hR : mrg Zj A2 B2 = A2 ++ B2:=Zg6 (by omega)
     refine .mk [] (go ?_)
     exact cb (by rw [hcut,hR];simp) trivial
theorem Zgp {R : List Ev} {i : Nat} {x : Ev} (h : R[i]? = some x) : R.getD i default = x:=by simp [List.getD_eq_getElem?_getD,h]
theorem Zl8 {a : Nat} {pre : List Ev} (ha : a = pre.length) (y : Ev) : ∀ (n : Nat) (A : List Ev),A.length = n → Srt Zj A → ∀ Q,Zmo a (a + n) (pre ++ (A ++ (y :: Q))) = pre ++ (mrg Zj A [y] ++ Q)
 | 0,A,hA,_,Q=>by
  have e:=List.eq_nil_of_length_eq_zero hA
  subst e
  have : ∀ R,Zmo a (a + 0) R = R:=by
   intro R
   cases a with
   | zero=>rfl
   | succ j=>rw [Nat.add_zero,Zmo,if_neg (fun h=>by omega)]
  rw [this]
  simp [mrg]
 | n + 1,A,hA,hs,Q=>by
  obtain ⟨A',w,rfl⟩ : ∃ A' w,A = A' ++ [w]:=⟨A.dropLast,A.getLast (by intro e;rw [e] at hA;simp at hA),(List.dropLast_concat_getLast _).symm⟩
  have hA' : A'.length = n:=by simpa using hA
  have gy : (pre ++ ((A' ++ [w]) ++ (y :: Q)))[a + n + 1]? = some y:=by
   have e0 : a + n + 1 - (pre ++ (A' ++ [w])).length = 0:=by simp;omega
   rw [← List.append_assoc pre,List.getElem?_append_right (by simp;omega),e0];rfl
  have gw : (pre ++ ((A' ++ [w]) ++ (y :: Q)))[a + n]? = some w:=by
   rw [List.append_assoc A',List.getElem?_append_right (by omega),List.getElem?_append_right (by omega)]
   simp [← ha,hA']
  have hs':=List.pairwise_append.1 hs
  rw [← Nat.add_assoc,Zmo,Zgp gy,Zgp gw]
  by_cases hc : Zj y w < 0
  · rw [if_pos ⟨by omega,hc⟩]
    have e : Zdb (pre ++ ((A' ++ [w]) ++ (y :: Q))) (a + n) = pre ++ (A' ++ (y :: (w :: Q))):=by
     rw [Zdb,Zgp gy,Zgp gw]
     have hl : (pre ++ A').length = a + n:=by simp;omega
     have e1 : pre ++ ((A' ++ [w]) ++ (y :: Q)) = (pre ++ A') ++ (w :: y :: Q):=by simp
     rw [e1,List.set_append_right _ _ (by omega),hl,show a + n + 1 - (a + n) = 1 by omega,List.set_append_right _ _ (by omega),hl,show a + n - (a + n) = 0 by omega]
     simp
    rw [e,Zl8 ha y n A' hA' hs'.1 (w :: Q)]
    have e2:=Yw (c:=Zj) A' [y] [w] [] (fun y' hy x hx=>by simp at hy hx;subst hy;subst hx;exact hc) (by simp)
    rw [List.append_nil,QJ] at e2
    rw [e2];simp
  · rw [if_neg (fun h=>hc h.2)]
    have e2 : mrg Zj (A' ++ [w]) [y] = (A' ++ [w]) ++ [y]:=by
     have:=Zdm (c:=Zj) (A:=A' ++ [w]) (y:=y) (A' ++ [w]).length (fun x hx=>?_) (by simp)
     · rw [List.take_length,List.drop_length] at this;exact this
     · rw [List.take_length] at hx
       rcases List.mem_append.1 hx with hx | hx
       · exact cmpEvC.le_trans (hs'.2.2 x hx w (by simp)) hc
       · simp at hx;subst hx;exact hc
    rw [e2];simp
theorem Ze3 {a : Nat} {pre : List Ev} (ha : a = pre.length) : ∀ (Y A Q : List Ev),Srt Zj A → Qi a Y.length (a + A.length) (pre ++ (A ++ (Y ++ Q))) = pre ++ (Y.foldl (fun A x=>mrg Zj A [x]) A ++ Q)
 | [],A,Q,_=>by simp [Qi]
 | y :: Y,A,Q,hA=>by
  rw [List.length_cons,Qi,List.cons_append,Zl8 ha y A.length A rfl hA]
  have:=Ze3 ha Y (mrg Zj A [y]) Q (Zcy cmpEvC _ _ hA (Zfy y))
  rw [Zab,List.length_singleton] at this
  rw [show a + A.length + 1 = a + (A.length + 1) by omega,this]
  rfl
theorem Zgz {a b : Nat} {pre X Q : List Ev} (ha : a = pre.length) (hb : b = a + X.length) : Qi a (b - (a + 1)) (a + 1) (pre ++ (X ++ Q)) = pre ++ (Z4 Zj X ++ Q):=by
 cases X with
 | nil=>rw [show b - (a + 1) = 0 by rw [hb];simp];simp [Qi,Z4]
 | cons x X=>
  have:=Ze3 ha X [x] Q (Zfy x)
  rw [show b - (a + 1) = X.length by rw [hb,List.length_cons];omega]
  exact this
theorem ZdG (pre X Q : List Ev) (a b len : Nat) (ha : a = pre.length) (hb : b = a + X.length) (hlen : len = pre.length + X.length + Q.length) (hl : len < 4611686018427387904) (hk : Qp (pre ++ (X ++ Q))) :
 LSpec Tryz.prog 211 [.ac 0 3 len,V.int a,V.int b,Zo1] [(0,.dat 3 ((pre ++ (X ++ Q)).map Ev.row))] 1 (.tup []) [(0,.dat 3 ((pre ++ (Z4 Zj X ++ Q)).map Ev.row))] 1:=by
 have e : len = (pre ++ (X ++ Q)).length:=by simp;omega
 have:=ZfA (pre ++ (X ++ Q)) a b (by omega) (by rw [← e];omega) (by omega) hk
 rw [Zgz ha hb,← e] at this
 exact this
theorem QS {D R : List Ev} (hk : Qp R) (h : ∀ z,Yu Zj z D = Yu Zj z R) : Qp D:=fun x hx=>hk x (Zot Zak h hx)
theorem Zjr {z : Ev} {A B B' C : List Ev} (h : Yu Zj z B' = Yu Zj z B) : Yu Zj z (A ++ (B' ++ C)) = Yu Zj z (A ++ (B ++ C)):=by
 rw [ZP,ZP,ZP,ZP,h]
set_option maxHeartbeats 1000000 in
theorem ZqU (R : List Ev) (hl : R.length < 1152921504606846976) (hk : Qp R) :
 LSpec Tryz.prog 307 [.ac 0 3 R.length,V.int R.length,Zo1] [(0,.dat 3 (R.map Ev.row))] 1 (.tup []) [(0,.dat 3 ((Z4 Zj R).map Ev.row))] 1:=by
 refine lspec tab_ok mix Tryz.func307 (by kernel_rfl) (by rfl) (by rfl) (by rfl) (by rfl) ?_
 (refine go ?_; try trivial)
 refine ZbA tab_ok mix [0,1,2,6] [] (fun (Ls : List (List Ev)) (rest : List Ev)=>[(7,V.int (Ls.flatten.length : Nat)),(8,V.int (Ls.flatten.length + 20 : Nat))]) (fun Ls rest=>[(0,.dat 3 ((Ls.flatten ++ rest).map Ev.row))])
  (fun Ls rest=>(∀ l ∈ Ls,l.length = 20 ∧ Srt Zj l) ∧ Ls.flatten.length + rest.length = R.length ∧ ∀ z,Yu Zj z (Ls.flatten ++ rest) = Yu Zj z R) (fun Ls rest=>rest.length) [] [] R rfl ⟨by simp,by simp,by simp⟩ (by (refine go ?_; try trivial)) ?_
 rintro Ls rest ⟨h1,h2,h3⟩
 (refine go ?_; try trivial)
 refine Zf (fun g=>?_) (fun g=>?_) <;> (refine go ?_; try trivial)
 · obtain ⟨X,Q,rfl,hX⟩:=ZfI rest 20 (by omega)
   rw [List.length_append] at h2
   refine Za (ZdG Ls.flatten X Q Ls.flatten.length (Ls.flatten.length + 20) R.length rfl (by omega) (by omega) (by omega) (QS hk h3)) [some 0] [] rfl (go ?_)
   have hf : (Ls ++ [Z4 Zj X]).flatten = Ls.flatten ++ Z4 Zj X:=by simp
   have hfl : (Ls ++ [Z4 Zj X]).flatten.length = Ls.flatten.length + 20:=by rw [hf,List.length_append,Za0 cmpEvC,hX]
   refine .mk [] (Ls ++ [Z4 Zj X]) Q ⟨fun l hm=>?_,by rw [hfl];omega,fun z=>?_⟩ (by dsimp only;rw [List.length_append];omega) ?_
   · rcases List.mem_append.1 hm with hm | hm
     · exact h1 l hm
     · simp at hm;subst hm;exact ⟨(Za0 cmpEvC X).trans hX,ZaX cmpEvC X⟩
   · rw [hf,← h3 z,List.append_assoc];exact Zjr (Zbr cmpEvC X z)
   · (refine go ?_; try trivial)
     all_goals exact cb (by first | (rw [hfl];done) | (rw [hfl];simp [-List.length_flatten];omega) | (rw [hf];simp)) (by (refine go ?_; try trivial))
 · refine Za (ZdG Ls.flatten rest [] Ls.flatten.length R.length R.length rfl (by omega) (by simp [-List.length_flatten];omega) (by omega) (QS hk (fun z=>by rw [List.append_nil];exact h3 z))) [some 0] [] rfl (go ?_)
   have hlast : (Z4 Zj rest).length = rest.length:=Za0 cmpEvC rest
   refine ZsJ tab_ok mix [0,1,2] [] (fun (w : Nat) (Ls : List (List Ev)) (last : List Ev)=>[(6,V.int w)]) (fun w Ls last=>[(0,.dat 3 ((Ls.flatten ++ last).map Ev.row))])
    (fun w Ls last=>20 ≤ w ∧ (∀ l ∈ Ls,l.length = w ∧ Srt Zj l) ∧ last.length < w ∧ Srt Zj last ∧ Ls.flatten.length + last.length = R.length ∧ ∀ z,Yu Zj z (Ls.flatten ++ last) = Yu Zj z R) (fun w Ls last=>R.length + 1 - w) [] 20 Ls (Z4 Zj rest) rfl
    ⟨by omega,h1,by omega,ZaX cmpEvC rest,by omega,fun z=>by rw [← h3 z,ZP,ZP,Zbr cmpEvC rest z]⟩ (by (refine go ?_; try trivial)) ?_
   clear h1 h2 h3 hlast g
   rintro w Ls last ⟨h0,h1,h2,h3,h4,h5⟩
   (refine go ?_; try trivial)
   refine Zf (fun g=>?_) (fun g=>?_) <;> (refine go ?_; try trivial)
   · refine ZbA tab_ok mix [0,1,2,6] [] (fun (Ms Ks : List (List Ev))=>[(7,V.int (Ms.flatten.length : Nat)),(8,V.int (Ms.flatten.length + 2 * w : Nat))]) (fun Ms Ks=>[(0,.dat 3 ((Ms.flatten ++ (Ks.flatten ++ last)).map Ev.row))])
      (fun Ms Ks=>(∀ l ∈ Ms,l.length = 2 * w ∧ Srt Zj l) ∧ (∀ l ∈ Ks,l.length = w ∧ Srt Zj l) ∧ Ms.flatten.length + (Ks.flatten.length + last.length) = R.length ∧ ∀ z,Yu Zj z (Ms.flatten ++ (Ks.flatten ++ last)) = Yu Zj z R) (fun Ms Ks=>Ks.length) [] [] Ls rfl
      ⟨by simp,h1,by simp [-List.length_flatten];omega,by simpa using h5⟩ (by (refine go ?_; try trivial)) ?_
     rintro Ms Ks ⟨k1,k2,k3,k4⟩
     (refine go ?_; try trivial)
     refine Zf (fun g1=>?_) (fun g1=>?_) <;> (refine go ?_; try trivial)
     · match Ks,k2,k3,k4 with
       | [],_,k3,_=>exfalso;simp [-List.length_flatten] at k3;omega
       | [A],k2,k3,_=>exfalso;have:=(k2 A (by simp)).1;simp [-List.length_flatten] at k3;omega
       | A :: B :: Ks,k2,k3,k4=>
        obtain ⟨hA,sA⟩:=k2 A (by simp)
        obtain ⟨hB,sB⟩:=k2 B (by simp)
        have e1 : (A :: B :: Ks).flatten = A ++ (B ++ Ks.flatten):=by simp
        rw [e1,List.length_append,List.length_append] at k3
        rw [e1] at k4
        have hkk:=QS hk k4
        refine Za (Zjn (A.length + B.length) Ms.flatten A B (Ks.flatten ++ last) (Nat.le_refl _) (by omega) (by omega) sA sB (fun x hx=>hkk x (by simp [hx])) (fun x hx=>hkk x (by simp [hx])) Ms.flatten.length (Ms.flatten.length + w) (Ms.flatten.length + 2 * w) R.length rfl (by omega) (by omega) (by simp [-List.length_flatten];omega) (by omega)) [some 0] [] rfl (go ?_)
        have hf : (Ms ++ [mrg Zj A B]).flatten = Ms.flatten ++ mrg Zj A B:=by simp
        have hfl : (Ms ++ [mrg Zj A B]).flatten.length = Ms.flatten.length + 2 * w:=by rw [hf,List.length_append,Zab];omega
        refine .mk [] (Ms ++ [mrg Zj A B]) Ks ⟨fun l hm=>?_,fun l hm=>k2 l (by simp [hm]),by rw [hfl];omega,fun z=>?_⟩ (by dsimp only;simp only [List.length_cons];omega) ?_
        · rcases List.mem_append.1 hm with hm | hm
          · exact k1 l hm
          · simp at hm;subst hm;exact ⟨by rw [Zab];omega,Zcy cmpEvC A B sA sB⟩
        · rw [hf,← k4 z,List.append_assoc]
          have:=Zjr (z:=z) (A:=Ms.flatten) (B:=A ++ B) (B':=mrg Zj A B) (C:=Ks.flatten ++ last) (by rw [Zb2 cmpEvC z A B sA sB,ZP])
          simpa using this
        · (refine go ?_; try trivial)
          all_goals exact cb (by first | (rw [hfl];done) | (rw [hfl];simp [-List.length_flatten];omega) | (rw [hf];simp)) (by (refine go ?_; try trivial))
     · match Ks,k2,k3,k4 with
       | [],_,k3,k4=>
        simp only [List.flatten_nil,List.length_nil,List.nil_append] at k3 k4
        refine Zk9 (by simp [-List.length_flatten];omega) (go ?_)
        refine .mk [] (2 * w) Ms last ⟨by omega,k1,by omega,h3,by omega,k4⟩ (by dsimp only;omega) (go ?_);try trivial
       | [A],k2,k3,k4=>
        obtain ⟨hA,sA⟩:=k2 A (by simp)
        simp only [List.flatten_cons,List.flatten_nil,List.append_nil] at k3 k4
        by_cases hz : last.length = 0
        · have hz:=List.eq_nil_of_length_eq_zero hz
          subst hz
          refine Zk9 (by simp [-List.length_flatten] at k3 ⊢;omega) (go ?_)
          refine .mk [] (2 * w) Ms A ⟨by omega,k1,by omega,sA,by simpa [-List.length_flatten] using k3,by simpa using k4⟩ (by dsimp only;omega) (go ?_);try trivial
        · refine Zl4 (by simp [-List.length_flatten];omega) (go ?_)
          have hkk:=QS hk k4
          refine Za (Zjn (A.length + last.length) Ms.flatten A last [] (Nat.le_refl _) (by omega) (by omega) sA h3 (fun x hx=>hkk x (by simp [hx])) (fun x hx=>hkk x (by simp [hx])) Ms.flatten.length (Ms.flatten.length + w) R.length R.length rfl (by omega) (by omega) (by simp [-List.length_flatten];omega) (by omega)) [some 0] [] rfl (go ?_)
          refine .mk [] (2 * w) Ms (mrg Zj A last) ⟨by omega,k1,by rw [Zab];omega,Zcy cmpEvC A last sA h3,by rw [Zab];omega,fun z=>?_⟩ (by dsimp only;omega) ?_
          · rw [← k4 z,ZP,ZP,ZP,Zb2 cmpEvC z A last sA h3]
          · (refine go ?_; try trivial)
       | A :: B :: Ks,k2,k3,_=>
        exfalso
        have hA:=(k2 A (by simp)).1
        have hB:=(k2 B (by simp)).1
        simp [-List.length_flatten] at k3
        omega
   · have hD : Ls.flatten ++ last = Z4 Zj R:=by
      refine Zhg cmpEvC Zak ?_ h5
      match Ls,h1,h4 with
      | [],_,_=>simpa using h3
      | A :: Ls,h1,h4=>
       obtain ⟨hA,sA⟩:=h1 A (by simp)
       simp only [List.flatten_cons,List.length_append] at h4
       have e1:=List.eq_nil_of_length_eq_zero (show last.length = 0 by omega)
       have e2:=List.eq_nil_of_length_eq_zero (show Ls.flatten.length = 0 by omega)
       simp only [List.flatten_cons,e1,e2,List.append_nil]
       exact sA
     refine .mk [] (go ?_)
     exact cb (by rw [hD]) trivial
theorem Zh5 (R : List Ev) (hl : R.length < 1152921504606846976) (hk : Qp R) :
 LSpec Tryz.prog 298 [.ac 0 3 R.length,Zo1] [(0,.dat 3 (R.map Ev.row))] 1 (.tup []) [(0,.dat 3 ((Z4 Zj R).map Ev.row))] 1:=by
 refine lspec tab_ok mix Tryz.func298 (by kernel_rfl) (by rfl) (by rfl) (by rfl) (by rfl) ?_
 (refine go ?_; try trivial)
 refine Za (ZqU R hl hk) [some 0] [] rfl (go ?_)
 refine .mk [] (go ?_);try trivial
structure Lad where
 topStart : Int
 top : List Item
 rungs : List Rng
 bottom : List Item
 moves : Int
 compares : Int
def Zb7 (rs : List Rng) : V:=.lst 4 (rs.map Rng.row) false
def Lad.v (l : Lad) : V:=.agg [V.int l.topStart,ZI l.top,Zb7 l.rungs,ZI l.bottom,V.int l.moves,V.int l.compares]
theorem ZqX : PSpec Tryz.prog 125 [] (Lad.v ⟨0,[],[],[],0,0⟩):=by
 refine pspec tab_ok mix Tryz.func125 (by kernel_rfl) rfl rfl ?_
 (refine go ?_; try trivial)
 refine Qo (go ?_);try trivial
theorem ZcL (b : List Item) (hl : b.length < 1073741824) : LSpec Tryz.prog 247 [ZI b] [] 0 (.ac 0 3 b.length) [(0,.dat 3 (b.map Item.row))] 1:=by
 refine lspec tab_ok mix Tryz.func247 (by kernel_rfl) (by rfl) (by rfl) (by rfl) (by rfl) ?_
 (refine go ?_; try trivial)
 refine ZrO ?_ ?_
 · (refine go ?_; try trivial)
   refine .mk [(0,384)] (go ?_);try trivial
 · intro h
   have h : b = []:=by simpa using h
   subst h
   (refine go ?_; try trivial)
   refine .mk [] (go ?_);try trivial
theorem Zgu (b : List Rng) (hl : b.length < 1073741824) : LSpec Tryz.prog 243 [Zb7 b] [] 0 (.ac 0 4 b.length) [(0,.dat 4 (b.map Rng.row))] 1:=by
 refine lspec tab_ok mix Tryz.func243 (by kernel_rfl) (by rfl) (by rfl) (by rfl) (by rfl) ?_
 (refine go ?_; try trivial)
 refine ZrO ?_ ?_
 · (refine go ?_; try trivial)
   refine .mk [(0,384)] (go ?_);try trivial
 · intro h
   have h : b = []:=by simpa using h
   subst h
   (refine go ?_; try trivial)
   refine .mk [] (go ?_);try trivial
theorem ZuV {n : Int} {K : Int → Prop} (h : 0 ≤ n ∧ n ≤ 9223372036854775807) (k : K n) : WrB .u64 n K:=⟨by
 have e : wr .u64 n = n:=by
  have e : wr .u64 n = IntKind.wrap .u64 n:=rfl
  rw [e,IntKind.wrap_u64];omega
 rw [e];exact k⟩
theorem Zud {i j : Nat} {K : Int → Prop} (r : Nat) (hr : (i + j) / 2 = r) (h : i + j < 9223372036854775808) (k : K (r : Int)) : WrB .i64 (Int.fdiv ((i : Int) + (j : Int)) (2 ^ (min (Int.toNat 1) (IntKind.bits .u64)))) K:=by
 have e : (2 : Int) ^ (min (Int.toNat 1) (IntKind.bits .u64)) = 2:=by decide
 rw [e]
 have e2 : Int.fdiv ((i : Int) + (j : Int)) 2 = (r : Int):=by
  rw [Int.fdiv_eq_ediv_of_nonneg _ (by omega)];omega
 rw [e2]
 exact wrB (by omega) k
def Zfc (l : List Item) (e : Item) : Nat:=(l.takeWhile fun x=>decide (Zr x e < 0)).length
def Zo2 (l : List Item) (e : Item) : Prop:=∀ (i j : Nat) (x y : Item),i ≤ j → l[i]? = some x → l[j]? = some y → Zr y e < 0 → Zr x e < 0
theorem Zqc {l : List Item} {e : Item} {k : Nat} (hk : k ≤ l.length) (h1 : ∀ (i : Nat) (x : Item),i < k → l[i]? = some x → Zr x e < 0) (h2 : ∀ x,l[k]? = some x → ¬ Zr x e < 0) : Zfc l e = k:=by
 unfold Zfc
 induction l generalizing k with
 | nil=>simp at hk;subst hk;rfl
 | cons a l ih=>
  cases k with
  | zero=>
   have:=h2 a rfl
   simp [this]
  | succ k=>
   have h0:=h1 0 a (by omega) rfl
   simp only [List.takeWhile_cons,h0,decide_true,if_true,List.length_cons]
   congr 1
   exact ih (by simpa using hk) (fun i x hi hx=>h1 (i + 1) x (by omega) (by simpa using hx)) (fun x hx=>h2 x (by simpa using hx))
def Zlj (l : List Item) (e : Item) : Bool:=match l[Zfc l e]? with
 | some x=>decide (Zr x e = 0)
 | none=>false
theorem ZhM (l : List Item) (e : Item) (hl : l.length < 4611686018427387904) (hm : Zo2 l e) :
 PSpec Tryz.prog 245 [ZI l,e.v,.fn (.func 84) [] []] (.tup [V.int (Zfc l e),V.bool (Zlj l e)]):=by
 refine pspec tab_ok mix Tryz.func245 (by kernel_rfl) rfl rfl ?_
 (refine go ?_; try trivial)
 refine ZbA tab_ok mix [0,2,4,8] [0] (fun (i j : Nat)=>[(9,V.int i),(10,V.int j)]) (fun i j=>[]) (fun i j=>i ≤ j ∧ j ≤ l.length ∧ (∀ (k : Nat) (x : Item),k < i → l[k]? = some x → Zr x e < 0) ∧ (∀ (k : Nat) (x : Item),j ≤ k → l[k]? = some x → ¬ Zr x e < 0)) (fun i j=>j - i) [] 0 l.length rfl ⟨by omega,by omega,by intro k x hk;omega,fun k x hk hx=>by have:=(List.getElem?_eq_some_iff.1 hx).1;omega⟩ (by (refine go ?_; try trivial)) ?_
 rintro i j ⟨h1,h2,h3,h4⟩
 (refine go ?_; try trivial)
 refine Zf (fun g=>?_) (fun g=>?_) <;> (refine go ?_; try trivial)
 · refine ZuV (by omega) (go ?_)
   refine Zud ((i + j) / 2) rfl (by omega) (go ?_)
   obtain ⟨x,hx⟩:=ZF (show (i + j) / 2 < l.length by omega)
   refine Zcw hx (go ?_)
   refine Zn (Za4 x e) (go ?_)
   refine Zf (fun k=>?_) (fun k=>?_) <;> (refine go ?_; try trivial)
   · refine .mk [] ((i + j) / 2 + 1) j ⟨by omega,h2,fun q y hq hy=>hm q _ y x (by omega) hy hx k,h4⟩ (by dsimp only;omega) (go ?_);try trivial
   · refine .mk [] i ((i + j) / 2) ⟨by omega,by omega,h3,fun q y hq hy hc=>k (hm _ q x y hq hx hy hc)⟩ (by dsimp only;omega) (go ?_);try trivial
 · have e1 : i = j:=by omega
   subst e1
   have hp : Zfc l e = i:=Zqc h2 h3 fun x hx=>h4 i x (by omega) hx
   refine Zf (fun k=>?_) (fun k=>?_) <;> (refine go ?_; try trivial)
   · simp at k
     obtain ⟨x,hx⟩:=ZF k
     refine Zcw hx (go ?_)
     refine Zn (Za4 x e) (go ?_)
     exact .same (by simp only [Zlj,hp,hx])
   · simp at k
     exact .same (by simp only [Zlj,hp];rw [List.getElem?_eq_none (by omega)])
structure Rng.Ok (r : Rng) : Prop where
 fits : r.Fits
 len : r.bkts.length = 8
 each : ∀ b ∈ r.bkts,b.length < 1000000
structure Lad.Fits (l : Lad) : Prop where
 top : l.top.length < 1000000
 rungs : l.rungs.length < 1000000
 bottom : l.bottom.length < 1000000
 each : ∀ r ∈ l.rungs,r.Ok
 moves : -1152921504606846976 ≤ l.moves ∧ l.moves ≤ 1152921504606846976
 compares : -1152921504606846976 ≤ l.compares ∧ l.compares ≤ 1152921504606846976
def ZiY (l : List Item) (e : Item) : List Item:=l.take (Zfc l e) ++ e :: l.drop (Zfc l e)
def Z6 (l : Lad) (it : Item) : Lad:=
 if l.topStart ≤ it.time then { l with moves:=l.moves + 1,compares:=l.compares + 1,top:=l.top ++ [it] }
 else match l.rungs.findIdx? fun r=>!decide (it.time < r.at r.cur) with
  | some i=>{ l with moves:=l.moves + 1,compares:=l.compares + 1 + (i + 1),rungs:=l.rungs.modify i fun r=>(ZcK r it).1 }
  | none=>{ l with moves:=l.moves + 1,compares:=l.compares + 1 + l.rungs.length,bottom:=ZiY l.bottom it }
theorem ZeP {α β : Type} {l : List α} {i : Nat} {r : α} (f : α → α) (g : α → β) (h : l[i]? = some r) : (l.modify i f).map g = (l.map g).set i (g (f r)):=by
 apply List.ext_getElem?
 intro j
 rw [List.getElem?_map,List.getElem?_modify,List.getElem?_set]
 by_cases e : i = j
 · subst e
   obtain ⟨hl,hr⟩:=List.getElem?_eq_some_iff.1 h
   simp [hl,hr]
 · simp [e]
set_option maxHeartbeats 1000000 in
theorem Zkh (l : Lad) (it : Item) (hf : l.Fits) (hm : Zo2 l.bottom it) : PSpec Tryz.prog 200 [l.v,it.v] ((Z6 l it).v):=by
 obtain ⟨f1,f2,f3,f4,f5,f6⟩:=hf
 have hps : Zfc l.bottom it ≤ l.bottom.length:=(List.takeWhile_sublist _).length_le
 refine pspec tab_ok mix Tryz.func200 (by kernel_rfl) rfl rfl ?_
 (refine go ?_; try trivial)
 refine Zf (fun g=>?_) (fun g=>?_) <;> (refine go ?_; try trivial)
 · refine Zn (Zhf l.top) (go ?_)
   refine Qo ?_
   rw [Z6,if_pos g]
   (refine go ?_; try trivial)
   refine cb ⟨by simp,by simp [Item.row]⟩ (go ?_);try trivial
 rw [Z6,if_neg g]
 refine Y3 tab_ok mix [2,3,4,31,32] [64,128] (fun i : Nat=>[(33,V.int i)]) (fun i=>[(0,.rows 6 [[V.int l.topStart,ZI l.top,Zb7 l.rungs,ZI l.bottom,V.int (l.moves + 1),V.int (l.compares + 1 + i)]])]) (fun i=>i ≤ l.rungs.length ∧ ∀ r ∈ l.rungs.take i,it.time < r.at r.cur) (fun i=>l.rungs.length - i) [] 0 rfl ⟨by omega,by simp⟩ (by (refine go ?_; try trivial)) ?_
 rintro i ⟨h1,h2⟩
 (refine go ?_; try trivial)
 refine Zf (fun u=>?_) (fun u=>?_) <;> (refine go ?_; try trivial)
 · simp at u
   obtain ⟨r,hr⟩:=ZF u
   have hro:=f4 r (List.mem_of_getElem? hr)
   refine Zcw hr (go ?_)
   refine Zn (Zft r hro.fits) (go ?_)
   refine Zf (fun v=>?_) (fun v=>?_) <;> (refine go ?_; try trivial)
   · refine .mk [] (i + 1) ⟨by omega,?_⟩ (by omega) ?_
     · rw [List.take_add_one,hr]
       intro y hy
       rcases List.mem_append.1 hy with hy | hy
       · exact h2 y hy
       · simp at hy;subst hy;exact v
     · (refine go ?_; try trivial)
   · have hfi : l.rungs.findIdx? (fun r=>!decide (it.time < r.at r.cur)) = some i:=by
      rw [List.findIdx?_eq_some_iff_getElem]
      obtain ⟨hl,hr'⟩:=List.getElem?_eq_some_iff.1 hr
      refine ⟨hl,by rw [hr'];simpa using v,fun j hj=>?_⟩
      have:=h2 l.rungs[j] (List.mem_take_iff_getElem.2 ⟨j,by omega,rfl⟩)
      simpa using this
     rw [hfi]
     refine Za (Zgu l.rungs (by omega)) [] [] rfl (go ?_)
     refine Zn (Zuy r it hro.fits hro.len hro.each) (go ?_)
     refine atB u (go ?_)
     refine Yy hr (go ?_)
     refine Qo (go ?_)
     refine cb ⟨by simp,(ZeP (fun r=>(ZcK r it).1) Rng.row hr).symm⟩ (go ?_);try trivial
 · have e : i = l.rungs.length:=by simp at u;omega
   subst e
   rw [List.take_length] at h2
   have hfi : l.rungs.findIdx? (fun r=>!decide (it.time < r.at r.cur)) = none:=List.findIdx?_eq_none_iff.2 fun x hx=>by simpa using h2 x hx
   rw [hfi]
   refine Zh (ZhM l.bottom it (by omega) hm) (go ?_)
   refine Zu (ZcL l.bottom (by omega)) [] [] (go ?_)
   by_cases h0 : 0 < l.bottom.length
   · refine Zu (Zkd l.bottom (Zfc l.bottom it) it hps h0 (by omega)) [some 2176] [] (go ?_)
     refine Qo (go ?_)
     all_goals exact cb ⟨by simp only [ZiY,List.length_map,List.length_append,List.length_take,List.length_cons,List.length_drop];omega,rfl⟩ (by (refine go ?_; try trivial))
   · have he : l.bottom = []:=List.eq_nil_of_length_eq_zero (by omega)
     have hp0 : Zfc l.bottom it = 0:=by omega
     dsimp only [ZiY]
     rw [hp0,he]
     refine Zu (ZhC it) [some 2176] [] (go ?_)
     refine Qo (go ?_);try trivial
theorem Zf4 (b : List Item) (hl : b.length < 1073741824) : PSpec Tryz.prog 275 [ZI b] (ZI (Z4 Zj b)):=by
 refine pspec tab_ok mix Tryz.func275 (by kernel_rfl) rfl rfl ?_
 (refine go ?_; try trivial)
 refine Za (ZcL b hl) [] [] rfl (go ?_)
 refine Za (Zh5 b (by omega) (fun _ _=>trivial)) [some 128] [] rfl (go ?_)
 refine Qo (go ?_)
 all_goals exact cb ⟨by simp [Za0 cmpEvC],rfl⟩ (by (refine go ?_; try trivial))
theorem Zpe (b : List Rng) : PSpec Tryz.prog 296 [Zb7 b] (.lst 4 (b.map Rng.row) true):=by
 refine pspec tab_ok mix Tryz.func296 (by kernel_rfl) rfl rfl ?_
 (refine go ?_; try trivial)
 refine slB 0 b.length rfl (by simp [Zkw]) (by simp) (go ?_)
 exact .same (by rw [List.take_of_length_le (by simp)];rfl)
def putS (r : Rng) (it : Item) : Rng:=(ZcK r it).1
def YY (f w : Int) (its : List Item) : Rng:=its.foldl putS ⟨f,w,0,List.replicate 8 []⟩
structure Rng.Le (r : Rng) (n : Nat) : Prop where
 fits : r.Fits
 len : r.bkts.length = 8
 each : ∀ b ∈ r.bkts,b.length ≤ n
theorem Zq1 {r : Rng} {n : Nat} (h : r.Le n) (it : Item) : (putS r it).Le (n + 1):=by
 unfold putS ZcK
 split
 · exact ⟨h.fits,h.len,fun b hb=>by have:=h.each b hb;omega⟩
 · refine ⟨⟨h.fits.f,h.fits.w,h.fits.c⟩,by simpa using h.len,fun b hb=>?_⟩
   rcases List.mem_or_eq_of_mem_set hb with hb | rfl
   · have:=h.each b hb;omega
   · have : ∀ i : Nat,((r.bkts[i]?).getD []).length ≤ n:=fun i=>by
      cases hi : r.bkts[i]? with
      | none=>simp
      | some b=>exact h.each b (List.mem_of_getElem? hi)
     simp only [List.length_append,List.length_singleton]
     have:=this ((it.time - r.from') / r.width).toNat
     omega
theorem Zgm : ∀ (its : List Item) (r : Rng) (n : Nat),r.Le n → (its.foldl putS r).Le (n + its.length)
 | [],r,n,h=>h
 | it :: its,r,n,h=>by
  have:=Zgm its (putS r it) (n + 1) (Zq1 h it)
  rw [List.foldl_cons,List.length_cons,show n + (its.length + 1) = n + 1 + its.length by omega]
  exact this
theorem ZeZ {f w : Int} (hf : 0 ≤ f ∧ f ≤ 2305843009213693952) (hw : 1 ≤ w ∧ w ≤ 288230376151711744) : (⟨f,w,0,List.replicate 8 []⟩ : Rng).Le 0:=
 ⟨⟨hf,hw,by dsimp only;omega⟩,by simp,fun b hb=>by rw [List.eq_of_mem_replicate hb];simp⟩
theorem Zm4 (l : Lad) (f w : Int) (its : List Item) (hf : 0 ≤ f ∧ f ≤ 2305843009213693952) (hw : 1 ≤ w ∧ w ≤ 288230376151711744) (hl : its.length < 1000000) (hr : l.rungs.length < 1000000) :
 LSpec Tryz.prog 273 [.p 0 6 0 0,V.int f,V.int w,ZI its] [(0,.rows 6 [[V.int l.topStart,ZI l.top,Zb7 l.rungs,ZI l.bottom,V.int l.moves,V.int l.compares]])] 1 (.tup [])
  [(0,.rows 6 [[V.int l.topStart,ZI l.top,Zb7 (l.rungs ++ [YY f w its]),ZI l.bottom,V.int l.moves,V.int l.compares]])] 1:=by
 refine lspec tab_ok mix Tryz.func273 (by kernel_rfl) (by rfl) (by rfl) (by rfl) (by rfl) ?_
 (refine go ?_; try trivial)
 refine Zh (ZoA f w) ?_
 let R : Nat → Rng:=fun i=>(its.take i).foldl putS ⟨f,w,0,List.replicate 8 []⟩
 have hR : ∀ i,R i = (its.take i).foldl putS ⟨f,w,0,List.replicate 8 []⟩:=fun _=>rfl
 have hR0 : (⟨f,w,0,List.replicate 8 []⟩ : Rng) = R 0:=rfl
 have hRs : ∀ (i : Nat) (x : Item),its[i]? = some x → R (i + 1) = putS (R i) x:=fun i x hx=>by
  rw [hR,hR,List.take_add_one,hx,Option.toList_some,List.foldl_append];rfl
 have hRle : ∀ i,(R i).Le i ∨ (R i).Le its.length:=fun i=>by
  have:=Zgm (its.take i) _ 0 (ZeZ hf hw)
  rw [Nat.zero_add,List.length_take] at this
  rw [hR]
  rcases Nat.le_total i its.length with h | h
  · rw [Nat.min_eq_left h] at this;exact .inl this
  · rw [Nat.min_eq_right h] at this;exact .inr this
 have hRe : YY f w its = R its.length:=by rw [hR,List.take_length];rfl
 rw [hRe,hR0]
 clear_value R
 (refine go ?_; try trivial)
 refine Y3 tab_ok mix [0,8,14,15] [0] (fun i : Nat=>[(16,V.int i)]) (fun i=>[(256,.rows 4 [[V.int (R i).from',V.int (R i).width,V.int (R i).cur,ZfV (R i).bkts]])]) (fun i=>i ≤ its.length) (fun i=>its.length - i) [] 0 rfl (by omega) (by (refine go ?_; try trivial)) ?_
 rintro i hi
 (refine go ?_; try trivial)
 refine Zf (fun u=>?_) (fun u=>?_) <;> (refine go ?_; try trivial)
 · simp at u
   obtain ⟨x,hx⟩:=ZF u
   have hle : ∀ b ∈ (R i).bkts,b.length < 1000000:=by
    rcases hRle i with h | h <;> intro b hb <;> have:=h.each b hb <;> omega
   have hfl : (R i).Fits ∧ (R i).bkts.length = 8:=by
    rcases hRle i with h | h <;> exact ⟨h.fits,h.len⟩
   refine Zcw hx (go ?_)
   refine Zh (Zuy (R i) x hfl.1 hfl.2 hle) (go ?_)
   refine .mk [] (i + 1) (by omega) (by omega) ?_
   rw [hRs i x hx]
   (refine go ?_; try trivial)
 · have e : i = its.length:=by simp at u;omega
   subst e
   refine Zn (Zpe l.rungs) (go ?_)
   refine .mk [] (go ?_)
   all_goals exact cb ⟨by simp,by simp [Rng.row]⟩ (by (refine go ?_; try trivial))
theorem Zmj (a b : Item) (ha : 0 ≤ a.time ∧ a.time ≤ 2305843009213693952) (hb : 0 ≤ b.time ∧ b.time ≤ 2305843009213693952) : PSpec Tryz.prog 276 [a.v,b.v] (V.int (a.time - b.time)):=by
 refine pspec tab_ok mix Tryz.func276 (by kernel_rfl) rfl rfl ?_
 (refine go ?_; try trivial)
 exact .same rfl
def ZeQ (m y : Item) : Item:=if y.time - m.time < 0 then y else m
def ZeR (m y : Item) : Item:=if 0 < y.time - m.time then y else m
def Zaq (x : Item) (l : List Item) : Item:=l.foldl ZeQ x
def QW (x : Item) (l : List Item) : Item:=l.foldl ZeR x
theorem Zb5 : ∀ (l : List Item) (x : Item),Zaq x l = x ∨ Zaq x l ∈ l
 | [],x=>.inl rfl
 | y :: l,x=>by
  have h : Zaq x (y :: l) = Zaq (ZeQ x y) l:=rfl
  rw [h]
  rcases Zb5 l (ZeQ x y) with h1 | h1
  · rw [h1];unfold ZeQ;split
    · exact .inr (by simp)
    · exact .inl rfl
  · exact .inr (List.mem_cons_of_mem _ h1)
theorem Zb9 : ∀ (l : List Item) (x : Item),QW x l = x ∨ QW x l ∈ l
 | [],x=>.inl rfl
 | y :: l,x=>by
  have h : QW x (y :: l) = QW (ZeR x y) l:=rfl
  rw [h]
  rcases Zb9 l (ZeR x y) with h1 | h1
  · rw [h1];unfold ZeR;split
    · exact .inr (by simp)
    · exact .inl rfl
  · exact .inr (List.mem_cons_of_mem _ h1)
def Ziv (l : List Item) : Prop:=∀ x ∈ l,0 ≤ x.time ∧ x.time ≤ 2305843009213693952
theorem Zou (x : Item) (l : List Item) (ht : Ziv (x :: l)) (hl : l.length < 1000000) : PSpec Tryz.prog 277 [ZI (x :: l),.fn (.func 276) [] []] ((Zaq x l).v):=by
 refine pspec tab_ok mix Tryz.func277 (by kernel_rfl) rfl rfl ?_
 (refine go ?_; try trivial)
 let M : Nat → Item:=fun i=>Zaq x (l.take i)
 have hM : ∀ i,M i = Zaq x (l.take i):=fun _=>rfl
 have hmem : ∀ i,M i ∈ x :: l:=fun i=>by
  rw [hM]
  rcases Zb5 (l.take i) x with h | h
  · rw [h];simp
  · exact List.mem_cons_of_mem _ (List.mem_of_mem_take h)
 have hM0 : x = M 0:=rfl
 have hMe : Zaq x l = M l.length:=by rw [hM,List.take_length]
 have hMs : ∀ (i : Nat) (y : Item),l[i]? = some y → M (i + 1) = ZeQ (M i) y:=fun i y hy=>by
  rw [hM,hM,List.take_add_one,hy,Option.toList_some]
  unfold Zaq
  rw [List.foldl_append];rfl
 rw [hMe]
 clear_value M
 refine Y3 tab_ok mix [0,1,4,5] [0] (fun i : Nat=>[(6,V.int ((i : Int) + 1))]) (fun i=>[(448,.rows 3 [[V.int (M i).time,V.int (M i).seq,V.int (M i).slot]])]) (fun i=>i ≤ l.length) (fun i=>l.length - i) [] 0 rfl (by omega) (by rw [← hM0];(refine go ?_; try trivial)) ?_
 rintro i hi
 (refine go ?_; try trivial)
 refine Zf (fun g=>?_) (fun g=>?_) <;> (refine go ?_; try trivial)
 · have g' : i < l.length:=by simp at g;omega
   obtain ⟨y,hy⟩:=ZF g'
   have hy' : (x :: l)[i + 1]? = some y:=by simpa using hy
   refine QI (i + 1) y (by omega) hy' (go ?_)
   refine Zn (Zmj y (M i) (ht y (List.mem_of_getElem? hy')) (ht _ (hmem i))) (go ?_)
   refine Zf (fun k=>?_) (fun k=>?_) <;> (refine go ?_; try trivial)
   · refine QI (i + 1) y (by omega) hy' (go ?_)
     refine .mk [] (i + 1) (by omega) (by omega) ?_
     rw [hMs i y hy,ZeQ,if_pos k]
     (refine go ?_; try trivial)
   · refine .mk [] (i + 1) (by omega) (by omega) ?_
     rw [hMs i y hy,ZeQ,if_neg k]
     (refine go ?_; try trivial)
 · have e : i = l.length:=by simp at g;omega
   subst e
   refine Qo (go ?_);try trivial
theorem Zoq (x : Item) (l : List Item) (ht : Ziv (x :: l)) (hl : l.length < 1000000) : PSpec Tryz.prog 278 [ZI (x :: l),.fn (.func 276) [] []] ((QW x l).v):=by
 refine pspec tab_ok mix Tryz.func278 (by kernel_rfl) rfl rfl ?_
 (refine go ?_; try trivial)
 let M : Nat → Item:=fun i=>QW x (l.take i)
 have hM : ∀ i,M i = QW x (l.take i):=fun _=>rfl
 have hmem : ∀ i,M i ∈ x :: l:=fun i=>by
  rw [hM]
  rcases Zb9 (l.take i) x with h | h
  · rw [h];simp
  · exact List.mem_cons_of_mem _ (List.mem_of_mem_take h)
 have hM0 : x = M 0:=rfl
 have hMe : QW x l = M l.length:=by rw [hM,List.take_length]
 have hMs : ∀ (i : Nat) (y : Item),l[i]? = some y → M (i + 1) = ZeR (M i) y:=fun i y hy=>by
  rw [hM,hM,List.take_add_one,hy,Option.toList_some]
  unfold QW
  rw [List.foldl_append];rfl
 rw [hMe]
 clear_value M
 refine Y3 tab_ok mix [0,1,4,5] [0] (fun i : Nat=>[(6,V.int ((i : Int) + 1))]) (fun i=>[(448,.rows 3 [[V.int (M i).time,V.int (M i).seq,V.int (M i).slot]])]) (fun i=>i ≤ l.length) (fun i=>l.length - i) [] 0 rfl (by omega) (by rw [← hM0];(refine go ?_; try trivial)) ?_
 rintro i hi
 (refine go ?_; try trivial)
 refine Zf (fun g=>?_) (fun g=>?_) <;> (refine go ?_; try trivial)
 · have g' : i < l.length:=by simp at g;omega
   obtain ⟨y,hy⟩:=ZF g'
   have hy' : (x :: l)[i + 1]? = some y:=by simpa using hy
   refine QI (i + 1) y (by omega) hy' (go ?_)
   refine Zn (Zmj y (M i) (ht y (List.mem_of_getElem? hy')) (ht _ (hmem i))) (go ?_)
   refine Zf (fun k=>?_) (fun k=>?_) <;> (refine go ?_; try trivial)
   · refine QI (i + 1) y (by omega) hy' (go ?_)
     refine .mk [] (i + 1) (by omega) (by omega) ?_
     rw [hMs i y hy,ZeR,if_pos k]
     (refine go ?_; try trivial)
   · refine .mk [] (i + 1) (by omega) (by omega) ?_
     rw [hMs i y hy,ZeR,if_neg k]
     (refine go ?_; try trivial)
 · have e : i = l.length:=by simp at g;omega
   subst e
   refine Qo (go ?_);try trivial
theorem ZfD : ∀ (l : List Item) (x : Item),(Zaq x l).time ≤ x.time
 | [],x=>Int.le_refl _
 | y :: l,x=>by
  have h : Zaq x (y :: l) = Zaq (ZeQ x y) l:=rfl
  rw [h]
  have h1:=ZfD l (ZeQ x y)
  have h2 : (ZeQ x y).time ≤ x.time:=by unfold ZeQ;split <;> omega
  omega
theorem Zgi : ∀ (l : List Item) (x : Item),x.time ≤ (QW x l).time
 | [],x=>Int.le_refl _
 | y :: l,x=>by
  have h : QW x (y :: l) = QW (ZeR x y) l:=rfl
  rw [h]
  have h1:=Zgi l (ZeR x y)
  have h2 : x.time ≤ (ZeR x y).time:=by unfold ZeR;split <;> omega
  omega
def ZrL (l : Lad) : B:=.rows 6 [[V.int l.topStart,ZI l.top,Zb7 l.rungs,ZI l.bottom,V.int l.moves,V.int l.compares]]
def Yl (l : Lad) (x : Item) (rest : List Item) : Lad:=
 if rest.length < 4 then ⟨(QW x rest).time + 1,[],l.rungs,Z4 Zj (x :: rest),l.moves + (rest.length + 1),l.compares⟩
 else ⟨(QW x rest).time + 1,[],l.rungs ++ [YY (Zaq x rest).time (((QW x rest).time - (Zaq x rest).time + 8) / 8) (x :: rest)],l.bottom,l.moves + (rest.length + 1),l.compares⟩
def ZhT (l : List Item) : Prop:=∀ x ∈ l,0 ≤ x.time ∧ x.time ≤ 1152921504606846976
theorem Zn3 (l : Lad) (x : Item) (rest : List Item) (htop : l.top = x :: rest) (ht : ZhT (x :: rest)) (hl : rest.length < 900000) (hr : l.rungs.length < 1000000) (hmv : -1152921504606846976 ≤ l.moves ∧ l.moves ≤ 1152921504606846976) :
 LSpec Tryz.prog 250 [.p 0 6 0 0] [(0,ZrL l)] 1 (.tup []) [(0,ZrL (Yl l x rest))] 1:=by
 have htk : Ziv (x :: rest):=fun y hy=>by have:=ht y hy;omega
 have hmin : 0 ≤ (Zaq x rest).time ∧ (Zaq x rest).time ≤ 1152921504606846976:=by
  rcases Zb5 rest x with h | h
  · rw [h];exact ht x (by simp)
  · exact ht _ (by simp [h])
 have hmax : 0 ≤ (QW x rest).time ∧ (QW x rest).time ≤ 1152921504606846976:=by
  rcases Zb9 rest x with h | h
  · rw [h];exact ht x (by simp)
  · exact ht _ (by simp [h])
 have hmm : (Zaq x rest).time ≤ (QW x rest).time:=Int.le_trans (ZfD rest x) (Zgi rest x)
 obtain ⟨ts,top,rungs,bottom,moves,compares⟩:=l
 dsimp only at htop hr hmv
 subst htop
 refine lspec tab_ok mix Tryz.func250 (by kernel_rfl) (by rfl) (by rfl) (by rfl) (by rfl) ?_
 (refine go ?_; try trivial)
 refine Zh (Zou x rest htk (by omega)) (go ?_)
 refine Zh (Zoq x rest htk (by omega)) (go ?_)
 have hlen : (List.map Item.row (x :: rest)).length = rest.length + 1:=by simp
 rw [Yl]
 refine wrB (by simp;omega) (go ?_)
 refine Zf (fun g=>?_) (fun g=>?_) <;> (refine go ?_; try trivial)
 · rw [if_pos (by simp at g;omega)]
   refine Zh (Zf4 (x :: rest) (by simp;omega)) (go ?_)
   refine .mk [] (go ?_);try trivial
 · rw [if_neg (by simp at g;omega)]
   refine Zh (Zsh (Zaq x rest).time (QW x rest).time ⟨hmin.1,hmm,by omega⟩) (go ?_)
   refine Za (Zm4 ⟨(QW x rest).time + 1,[],rungs,bottom,moves + (rest.length + 1),compares⟩ (Zaq x rest).time (((QW x rest).time - (Zaq x rest).time + 8) / 8) (x :: rest) ⟨hmin.1,by omega⟩ (by omega) (by simp;omega) hr) [some 0] [] rfl (go ?_)
   refine .mk [] (go ?_);try trivial
def ZO (l : Lad) (rs : List Rng) (r : Rng) : Lad:=
 if (Zv r).2.2.2 = true then
  if 4 < (Zv r).2.1.length ∧ rs.length + 1 < 4 ∧ 1 < (Zv r).1.width then { l with rungs:=(rs ++ [(Zv r).1]) ++ [YY (Zv r).2.2.1 (((Zv r).1.width + 7) / 8) (Zv r).2.1],moves:=l.moves + (Zv r).2.1.length }
  else { l with rungs:=rs ++ [(Zv r).1],moves:=l.moves + (Zv r).2.1.length,bottom:=Z4 Zj (Zv r).2.1 }
 else { l with rungs:=rs }
theorem Zd9 (r : Rng) (hr : r.Ok) (h8 : r.at 8 ≤ 2305843009213693952) : (Zv r).2.1.length < 1000000 ∧ 0 ≤ (Zv r).2.2.1 ∧ (Zv r).2.2.1 ≤ 2305843009213693952 ∧ (Zv r).1.width = r.width:=by
 unfold Zv
 split
 · next i hi=>
   obtain ⟨hl,_,_⟩:=List.findIdx?_eq_some_iff_getElem.1 hi
   have h8' : r.at 8 = r.from' + 8 * r.width:=rfl
   have hi' : r.at i = r.from' + i * r.width:=rfl
   have hm : (i : Int) * r.width ≤ 8 * r.width:=Int.mul_le_mul_of_nonneg_right (by have:=hr.len;omega) (by have:=hr.fits.w;omega)
   have hm0 : 0 ≤ (i : Int) * r.width:=Int.mul_nonneg (by omega) (by have:=hr.fits.w;omega)
   have hf:=hr.fits.f
   refine ⟨?_,by dsimp only;omega,by dsimp only;omega,rfl⟩
   have : r.bkts[i]? = some r.bkts[i]:=by simp [hl]
   rw [this]
   exact hr.each _ (List.getElem_mem hl)
 · exact ⟨by simp,by simp,by simp,rfl⟩
set_option maxHeartbeats 1000000 in
theorem Zm3 (l : Lad) (rs : List Rng) (r : Rng) (hrs : l.rungs = rs ++ [r]) (hr : r.Ok) (h8 : r.at 8 ≤ 2305843009213693952) (hl : rs.length < 900000) (hmv : -1152921504606846976 ≤ l.moves ∧ l.moves ≤ 1152921504606846976) :
 LSpec Tryz.prog 249 [.p 0 6 0 0] [(0,ZrL l)] 1 (.tup []) [(0,ZrL (ZO l rs r))] 1:=by
 obtain ⟨hn1,hn2,hn3,hn4⟩:=Zd9 r hr h8
 obtain ⟨ts,top,rungs,bottom,moves,compares⟩:=l
 dsimp only at hrs hmv
 subst hrs
 have hlen : (rs ++ [r]).length = rs.length + 1:=by simp
 have hget : (rs ++ [r])[rs.length]? = some r:=by simp
 refine lspec tab_ok mix Tryz.func249 (by kernel_rfl) (by rfl) (by rfl) (by rfl) (by rfl) ?_
 (refine go ?_; try trivial)
 refine wrB (by simp;omega) (go ?_)
 refine QI rs.length r (by simp) hget (go ?_)
 refine Zh (Zt4 r hr.fits hr.len) (go ?_)
 refine slB 0 rs.length rfl (by simp [Zkw]) (by simp) (go ?_)
 refine Za (Zgu rs (by omega)) [] [] rfl (go ?_)
 refine ZdO (fun g=>?_) (fun g=>?_) <;> (refine go ?_; try trivial)
 rotate_left
 · rw [ZO,if_neg (by rw [g];simp)]
   refine .mk [] (go ?_);try trivial
 rw [ZO,if_pos g]
 refine wrB (by simp;omega) (go ?_)
 refine Zf (fun u1=>?_) (fun u1=>?_) <;> (refine go ?_; try trivial)
 · refine Zf (fun u2=>?_) (fun u2=>?_) <;> (refine go ?_; try trivial)
   · refine Zf (fun u3=>?_) (fun u3=>?_) <;> (refine go ?_; try trivial)
     · rw [if_pos ⟨by simp at u1;omega,by simp at u2;omega,by omega⟩]
       refine Zh (Zp0 (Zv r).1.width (by rw [hn4];have:=hr.fits.w;omega)) (go ?_)
       refine Za (Zm4 ⟨ts,top,rs ++ [(Zv r).1],bottom,moves + (Zv r).2.1.length,compares⟩ (Zv r).2.2.1 (((Zv r).1.width + 7) / 8) (Zv r).2.1 ⟨hn2,hn3⟩ (by rw [hn4];have:=hr.fits.w;omega) hn1 (by simp;omega)) [some 0] [2944] rfl (go ?_)
       refine cb ⟨by simp,by simp [Rng.row]⟩ (go ?_)
       refine .mk [] (go ?_);try trivial
     · skip
       refine Zh (Zf4 (Zv r).2.1 (by omega)) (go ?_)
       rw [if_neg (fun h=>by omega)]
       refine .mk [] (go ?_)
       all_goals exact cb ⟨by simp,by simp [Rng.row]⟩ (by (refine go ?_; try trivial))
   · skip
     refine Zh (Zf4 (Zv r).2.1 (by omega)) (go ?_)
     rw [if_neg (fun h=>by simp at u2;omega)]
     refine .mk [] (go ?_)
     all_goals exact cb ⟨by simp,by simp [Rng.row]⟩ (by (refine go ?_; try trivial))
 · skip
   refine Zh (Zf4 (Zv r).2.1 (by omega)) (go ?_)
   rw [if_neg (fun h=>by simp at u1;omega)]
   refine .mk [] (go ?_)
   all_goals exact cb ⟨by simp,by simp [Rng.row]⟩ (by (refine go ?_; try trivial))
def Qe (l : Lad) : Lad:=
 match l.rungs.reverse with
 | r :: rs=>ZO l rs.reverse r
 | []=>match l.top with
  | x :: rest=>Yl l x rest
  | []=>l
structure Lad.Fill (l : Lad) : Prop where
 rungs : l.rungs.length < 900000
 each : ∀ r ∈ l.rungs,r.Ok ∧ r.at 8 ≤ 2305843009213693952
 top : ZhT l.top
 len : l.top.length < 900000
 moves : -1152921504606846976 ≤ l.moves ∧ l.moves ≤ 1152921504606846976
def Ql : Nat → Lad → Lad
 | 0,l=>l
 | n + 1,l=>if l.bottom = [] then Ql n (Qe l) else l
def Qq : Nat → Lad → Prop
 | 0,l=>l.bottom ≠ [] ∨ (l.rungs = [] ∧ l.top = [])
 | n + 1,l=>l.bottom ≠ [] ∨ (l.rungs = [] ∧ l.top = []) ∨ (l.Fill ∧ Qq n (Qe l))
def Yt (n : Nat) (l : Lad) : Lad × Item × Bool:=
 match (Ql n l).bottom with
 | x :: _=>(Ql n l,x,true)
 | []=>(Ql n l,⟨0,0,0⟩,false)
theorem ZcE {l : Lad} (h : l.bottom ≠ []) : ∀ n,Ql n l = l
 | 0=>rfl
 | n + 1=>by rw [Ql,if_neg h]
theorem ZiD {l : Lad} (h1 : l.rungs = []) (h2 : l.top = []) : Qe l = l:=by unfold Qe;rw [h1,h2];rfl
theorem Zat {l : Lad} (h1 : l.rungs = []) (h2 : l.top = []) : ∀ n,Ql n l = l
 | 0=>rfl
 | n + 1=>by
  rw [Ql]
  split
  · rw [ZiD h1 h2];exact Zat h1 h2 n
  · rfl
theorem Zfm {n : Nat} {l : Lad} (h : l.bottom = []) : Yt (n + 1) l = Yt n (Qe l):=by
 unfold Yt;rw [Ql,if_pos h]
theorem peekC (n : Nat) (l : Lad) (hn : Qq n l) : PSpec Tryz.prog 202 [l.v] (.tup [(Yt n l).1.v,(Yt n l).2.1.v,V.bool (Yt n l).2.2]):=by
 refine pspec tab_ok mix Tryz.func202 (by kernel_rfl) rfl rfl ?_
 (refine go ?_; try trivial)
 refine ZbA tab_ok mix [1,2,3] [64,128] (fun (l' : Lad) (n' : Nat)=>[]) (fun l' n'=>[(0,ZrL l')]) (fun l' n'=>Qq n' l' ∧ Yt n' l' = Yt n l) (fun l' n'=>n') [] l n rfl ⟨hn,rfl⟩ (by (refine go ?_; try trivial)) ?_
 rintro l' n' ⟨h1,h2⟩
 rw [← h2]
 clear h2 hn
 cases hb : l'.bottom with
 | cons x rest=>
  have hne : l'.bottom ≠ []:=by rw [hb];simp
  have e : Yt n' l' = (l',x,true):=by unfold Yt;rw [ZcE hne,hb]
  rw [e]
  obtain ⟨ts,top,rungs,bottom,moves,compares⟩:=l'
  dsimp only at hb
  subst hb
  (refine go ?_; try trivial)
  refine Zf (fun _=>?_) (fun g=>absurd (by simp) g)
  (refine go ?_; try trivial)
  refine Qo (go ?_);try trivial
 | nil=>
  rcases List.eq_nil_or_concat l'.rungs with hr | ⟨rs,r,hr⟩
  · cases ht : l'.top with
    | nil=>
     have e : Yt n' l' = (l',⟨0,0,0⟩,false):=by unfold Yt;rw [Zat hr ht,hb]
     rw [e]
     obtain ⟨ts,top,rungs,bottom,moves,compares⟩:=l'
     dsimp only at hb hr ht
     subst hb hr ht
     (refine go ?_; try trivial)
     refine Qo (go ?_);try trivial
    | cons x rest=>
     obtain ⟨m,rfl⟩ : ∃ m,n' = m + 1:=by
      cases n' with
      | zero => rcases h1 with h | ⟨_, h⟩
                · exact absurd hb h
                · rw [ht] at h;cases h
      | succ m=>exact ⟨m,rfl⟩
     have hF : l'.Fill ∧ Qq m (Qe l'):=by
      rcases h1 with h | ⟨_,h⟩ | h
      · exact absurd hb h
      · rw [ht] at h;cases h
      · exact h
     obtain ⟨hF,hE⟩:=hF
     have ef : Qe l' = Yl l' x rest:=by unfold Qe;rw [hr,ht];rfl
     have hlen:=hF.len
     have htop:=hF.top
     rw [ht] at hlen htop
     simp only [List.length_cons] at hlen
     (refine go ?_; try trivial)
     refine Zf (fun g=>absurd g (by rw [hb];simp)) (fun _=>?_)
     (refine go ?_; try trivial)
     refine Zf (fun g=>absurd g (by rw [hr];simp)) (fun _=>?_)
     (refine go ?_; try trivial)
     refine Zf (fun _=>?_) (fun g=>absurd (by rw [ht];simp) g)
     (refine go ?_; try trivial)
     refine Za (Zn3 l' x rest ht htop (by omega) (by have:=hF.rungs;omega) hF.moves) [some 0] [] rfl (go ?_)
     refine .mk [] (Yl l' x rest) m ⟨by rw [← ef];exact hE,by rw [← ef,Zfm hb]⟩ (by dsimp only;omega) (go ?_);try trivial
  · rw [List.concat_eq_append] at hr
    obtain ⟨m,rfl⟩ : ∃ m,n' = m + 1:=by
     cases n' with
     | zero => rcases h1 with h | ⟨h, _⟩
               · exact absurd hb h
               · rw [hr] at h;simp at h
     | succ m=>exact ⟨m,rfl⟩
    have hF : l'.Fill ∧ Qq m (Qe l'):=by
     rcases h1 with h | ⟨h,_⟩ | h
     · exact absurd hb h
     · rw [hr] at h;simp at h
     · exact h
    obtain ⟨hF,hE⟩:=hF
    have ef : Qe l' = ZO l' rs r:=by unfold Qe;rw [hr];simp
    have hre:=hF.each r (by rw [hr];simp)
    have hrl : rs.length < 900000:=by have:=hF.rungs;rw [hr] at this;simp at this;omega
    (refine go ?_; try trivial)
    refine Zf (fun g=>absurd g (by rw [hb];simp)) (fun _=>?_)
    (refine go ?_; try trivial)
    refine Zf (fun _=>?_) (fun g=>absurd (by rw [hr];simp) g)
    (refine go ?_; try trivial)
    refine Za (Zm3 l' rs r hr hre.1 hre.2 hrl hF.moves) [some 0] [] rfl (go ?_)
    refine .mk [] (ZO l' rs r) m ⟨by rw [← ef];exact hE,by rw [← ef,Zfm hb]⟩ (by dsimp only;omega) (go ?_);try trivial
def Zmv (n : Nat) (l : Lad) : Lad × Item × Bool:=
 if (Yt n l).2.2 = true then ({ (Yt n l).1 with bottom:=(Yt n l).1.bottom.drop 1 },(Yt n l).2.1,true) else Yt n l
theorem popC (n : Nat) (l : Lad) (hn : Qq n l) (hb : (Yt n l).1.bottom.length < 1000000) : PSpec Tryz.prog 203 [l.v] (.tup [(Zmv n l).1.v,(Zmv n l).2.1.v,V.bool (Zmv n l).2.2]):=by
 have hne : (Yt n l).2.2 = true → 1 ≤ (Yt n l).1.bottom.length:=by
  unfold Yt
  split
  · next x rest h=>intro _;dsimp only;rw [h];simp
  · simp
 refine pspec tab_ok mix Tryz.func203 (by kernel_rfl) rfl rfl ?_
 (refine go ?_; try trivial)
 refine Zh (peekC n l hn) (go ?_)
 refine ZdO (fun g=>?_) (fun g=>?_) <;> (refine go ?_; try trivial)
 · have h1:=hne g
   refine slB 1 (Yt n l).1.bottom.length rfl (by simp [Zkw]) (by simp;omega) (go ?_)
   refine Za (ZcL ((Yt n l).1.bottom.drop 1) (by rw [List.length_drop];omega)) [] [] rfl (go ?_)
   refine cb (by rw [List.take_of_length_le (by simp),List.map_drop]) (go ?_)
   refine Qo ?_
   rw [Zmv,if_pos g]
   (refine go ?_; try trivial)
 · refine Qo ?_
   rw [Zmv,if_neg (by rw [g];simp)]
   (refine go ?_; try trivial)
def ZuQ (lo hi : Int) : List (Nat × B):=[(0,.rows 1 [[V.int lo]]),(1,.rows 1 [[V.int hi]])]
def Rng.items (r : Rng) : List Item:=r.bkts.flatten
structure Rng.Good (r : Rng) (b : Int) (k : Nat) : Prop where
 f : 0 ≤ r.from' ∧ r.from' ≤ 1152921504606846976
 w : 1 ≤ r.width ∧ r.width ≤ 144115188075855873
 c : 0 ≤ r.cur ∧ r.cur ≤ 8
 len : r.bkts.length = 8
 e : b ≤ r.at 8 ∧ r.at 8 ≤ 1152921504606846976 + 8 * ((k : Int) + 1)
 each : ∀ (i : Nat) (l : List Item) (x : Item),r.bkts[i]? = some l → x ∈ l → r.cur ≤ i ∧ r.at i ≤ x.time ∧ x.time < r.at (i + 1) ∧ x.time < b ∧ x.time ≤ 1152921504606846976
theorem ZnT {r : Rng} (hw : 1 ≤ r.width) {i j : Int} (h : i ≤ j) : r.at i ≤ r.at j:=by
 have:=Int.mul_le_mul_of_nonneg_right h (show 0 ≤ r.width by omega)
 unfold Rng.at;omega
theorem Zq0 (r : Rng) (i : Int) : r.at (i + 1) = r.at i + r.width:=by
 unfold Rng.at;rw [Int.add_mul];omega
theorem Zec {α : Type} : ∀ {L : List (List α)} {i : Nat} {b : List α} (h : L[i]? = some b) (x : α),((L.set i (b ++ [x])).flatten).Perm (x :: L.flatten)
 | [],i,b,h,x=>by simp at h
 | a :: L,0,b,h,x=>by
  have e : a = b:=by simpa using h
  subst e
  simp only [List.set_cons_zero,List.flatten_cons,List.append_assoc,List.singleton_append]
  exact List.perm_middle
 | a :: L,i + 1,b,h,x=>by
  have ih:=Zec (L:=L) (i:=i) (by simpa using h) x
  simp only [List.set_cons_succ,List.flatten_cons]
  exact (List.Perm.append_left a ih).trans List.perm_middle
theorem Zb8 {α : Type} : ∀ {L : List (List α)} {i : Nat} {b : List α} (h : L[i]? = some b),(L.flatten).Perm (b ++ (L.set i []).flatten)
 | [],i,b,h=>by simp at h
 | a :: L,0,b,h=>by
  have e : a = b:=by simpa using h
  subst e
  simp
 | a :: L,i + 1,b,h=>by
  have ih:=Zb8 (L:=L) (i:=i) (by simpa using h)
  simp only [List.set_cons_succ,List.flatten_cons]
  exact (List.Perm.append_left a ih).trans (List.perm_append_comm_assoc ..)
theorem Zg5 {r : Rng} {b : Int} {k : Nat} {it : Item} (h : r.Good b k) (h1 : r.at r.cur ≤ it.time) (h2 : it.time < b) (h3 : it.time ≤ 1152921504606846976) :
 (putS r it).Good b k ∧ (putS r it).items.Perm (it :: r.items) ∧ (putS r it).from' = r.from' ∧ (putS r it).width = r.width ∧ (putS r it).cur = r.cur ∧ (ZcK r it).2 = true:=by
 have hb:=h.e.1
 have hn : ¬ (it.time < r.at r.cur ∨ r.at 8 ≤ it.time):=by omega
 have hw:=h.w
 have hc:=h.c
 have hcw : r.cur * r.width ≤ it.time - r.from':=by unfold Rng.at at h1;omega
 have h8 : it.time - r.from' < 8 * r.width:=by have : r.at 8 = r.from' + 8 * r.width:=rfl;omega
 have hq1 : r.cur ≤ (it.time - r.from') / r.width:=(Int.le_ediv_iff_mul_le (by omega)).2 hcw
 have hq2 : (it.time - r.from') / r.width < 8:=Int.ediv_lt_of_lt_mul (by omega) h8
 obtain ⟨i,hi⟩ : ∃ i : Nat,(it.time - r.from') / r.width = (i : Int):=⟨_,(Int.toNat_of_nonneg (by omega)).symm⟩
 have hlo : (i : Int) * r.width ≤ it.time - r.from':=by rw [← hi];exact Int.ediv_mul_le _ (by omega)
 have hhi : it.time - r.from' < ((i : Int) + 1) * r.width:=by rw [← hi];exact Int.lt_ediv_add_one_mul_self _ (by omega)
 have hil : i < r.bkts.length:=by have:=h.len;omega
 obtain ⟨l,hl⟩:=ZF hil
 have e : ZcK r it = ({ r with bkts:=r.bkts.set i (l ++ [it]) },true):=by
  unfold ZcK
  rw [if_neg hn]
  dsimp only
  rw [hi,Int.toNat_natCast,hl];rfl
 unfold putS
 rw [e]
 refine ⟨⟨h.f,h.w,h.c,by simpa using h.len,h.e,?_⟩,Zec hl it,rfl,rfl,rfl,rfl⟩
 intro j m x hj hx
 have hat : ∀ z : Int,Rng.at { r with bkts:=r.bkts.set i (l ++ [it]) } z = r.at z:=fun _=>rfl
 rw [hat,hat]
 dsimp only at hj ⊢
 rw [List.getElem?_set] at hj
 split at hj
 · next e=>
   subst e
   first | rw [if_pos hil] at hj | skip
   cases hj
   rcases List.mem_append.1 hx with hx | hx
   · exact h.each _ _ _ hl hx
   · rw [List.mem_singleton] at hx
     subst hx
     refine ⟨by omega,?_,?_,h2,h3⟩
     · unfold Rng.at;omega
     · unfold Rng.at;omega
 · exact h.each _ _ _ hj hx
theorem ZjC {r : Rng} {b : Int} {k : Nat} (h : r.Good b k) (hn : ¬ (Zv r).2.2.2 = true) : r.items = []:=by
 unfold Zv at hn
 split at hn
 · simp at hn
 · next hf=>
   have h0:=List.findIdx?_eq_none_iff.1 hf
   unfold Rng.items
   rw [List.flatten_eq_nil_iff]
   intro l hl
   have:=h0 l hl
   exact List.eq_nil_of_length_eq_zero (by simpa using this)
theorem Zkg {r : Rng} {b : Int} {k : Nat} (h : r.Good b k) (hn : (Zv r).2.2.2 = true) :
 ∃ (i : Nat) (out : List Item),Zv r = (⟨r.from',r.width,i + 1,r.bkts.set i []⟩,out,r.at i,true) ∧ i < 8 ∧ r.bkts[i]? = some out ∧ out ≠ [] ∧ (Zv r).1.Good b k ∧ r.items.Perm (out ++ (Zv r).1.items):=by
 have he : Zv r = (match r.bkts.findIdx? fun b=>decide (0 < b.length) with
  | some i=>(⟨r.from',r.width,i + 1,r.bkts.set i []⟩,(r.bkts[i]?).getD [],r.at i,true)
  | none=>(⟨r.from',r.width,8,r.bkts⟩,[],0,false)):=rfl
 cases hf : r.bkts.findIdx? fun b=>decide (0 < b.length) with
 | none=>rw [hf] at he;rw [he] at hn;simp at hn
 | some i=>
  obtain ⟨hl,h1,h2⟩:=List.findIdx?_eq_some_iff_getElem.1 hf
  have hg : r.bkts[i]? = some r.bkts[i]:=by simp [hl]
  rw [hf] at he
  dsimp only at he
  rw [hg,Option.getD_some] at he
  have hi : i < 8:=by have:=h.len;omega
  refine ⟨i,r.bkts[i],he,hi,hg,fun e=>?_,?_,?_⟩
  · rw [e] at h1;simp at h1
  · rw [he]
    refine ⟨h.f,h.w,by dsimp only;omega,by simpa using h.len,h.e,?_⟩
    intro j m x hj hx
    dsimp only at hj
    rw [List.getElem?_set] at hj
    split at hj
    · first | rw [if_pos (by omega)] at hj | skip
      cases hj
      simp at hx
    · next hne=>
      have:=h.each j m x hj hx
      refine ⟨?_,this.2⟩
      have hji : ¬ j < i:=fun hji=>by
       have:=h2 j hji
       have hjm:=(List.getElem?_eq_some_iff.1 hj).2
       rw [hjm] at this
       cases m with
       | nil=>simp at hx
       | cons a m=>simp at this
      dsimp only;omega
  · rw [he];exact Zb8 hg
theorem Ze0 {b : Int} {k : Nat} : ∀ (its : List Item) (r : Rng),r.Good b k → (∀ x ∈ its,r.at r.cur ≤ x.time ∧ x.time < b ∧ x.time ≤ 1152921504606846976) → (its.foldl putS r).Good b k ∧ (its.foldl putS r).items.Perm (its ++ r.items) ∧ (its.foldl putS r).from' = r.from' ∧ (its.foldl putS r).width = r.width ∧ (its.foldl putS r).cur = r.cur
 | [],r,h,_=>⟨h,.refl _,rfl,rfl,rfl⟩
 | it :: its,r,h,hi=>by
  have h0:=hi it (by simp)
  obtain ⟨g1,g2,g3,g4,g5,_⟩:=Zg5 h h0.1 h0.2.1 h0.2.2
  obtain ⟨e1,e2,e3,e4,e5⟩:=Ze0 its (putS r it) g1 fun x hx=>by
   have:=hi x (by simp [hx])
   have ea : (putS r it).at (putS r it).cur = r.at r.cur:=by unfold Rng.at;rw [g3,g4,g5]
   rw [ea];exact this
  rw [List.foldl_cons]
  refine ⟨e1,e2.trans ?_,by rw [e3,g3],by rw [e4,g4],by rw [e5,g5]⟩
  exact (List.Perm.append_left its g2).trans List.perm_middle
theorem Zc9 {f w : Int} {its : List Item} {b : Int} {k : Nat} (hf : 0 ≤ f ∧ f ≤ 1152921504606846976) (hw : 1 ≤ w ∧ w ≤ 144115188075855873) (he : b ≤ f + 8 * w ∧ f + 8 * w ≤ 1152921504606846976 + 8 * ((k : Int) + 1)) (hi : ∀ x ∈ its,f ≤ x.time ∧ x.time < b ∧ x.time ≤ 1152921504606846976) :
 (YY f w its).Good b k ∧ (YY f w its).items.Perm its ∧ (YY f w its).from' = f ∧ (YY f w its).width = w ∧ (YY f w its).cur = 0:=by
 have h0 : (⟨f,w,0,List.replicate 8 []⟩ : Rng).Good b k:=by
  refine ⟨hf,hw,by dsimp only;omega,by simp,he,fun i l x hl hx=>?_⟩
  have:=List.eq_of_mem_replicate (List.mem_of_getElem? hl)
  subst this;simp at hx
 obtain ⟨e1,e2,e3,e4,e5⟩:=Ze0 its _ h0 fun x hx=>by
  have:=hi x hx
  have ea : Rng.at ⟨f,w,0,List.replicate 8 []⟩ 0 = f:=by show f + 0 * w = f;omega
  dsimp only;rw [ea];exact this
 refine ⟨e1,?_,e3,e4,e5⟩
 have : (⟨f,w,0,List.replicate 8 []⟩ : Rng).items = []:=rfl
 rw [this,List.append_nil] at e2
 exact e2
def ZaU : Int → Nat → List Rng → Prop
 | _,_,[]=>True
 | b,k,r :: rs=>r.Good b k ∧ ZaU (min b (r.at r.cur)) (k + 1) rs
def bnd : Int → List Rng → Int
 | b,[]=>b
 | b,r :: rs=>bnd (min b (r.at r.cur)) rs
def pot : Nat → List Rng → Nat
 | _,[]=>0
 | k,r :: rs=>(4 - k) * r.items.length + pot (k + 1) rs
theorem Za9 : ∀ (rs : List Rng) (r : Rng) (b : Int) (k : Nat),ZaU b k (rs ++ [r]) ↔ ZaU b k rs ∧ r.Good (bnd b rs) (k + rs.length)
 | [],r,b,k=>by simp [ZaU,bnd]
 | a :: rs,r,b,k=>by
  have ih:=Za9 rs r (min b (a.at a.cur)) (k + 1)
  rw [List.cons_append,ZaU,ih,ZaU,bnd,List.length_cons,show k + 1 + rs.length = k + (rs.length + 1) by omega,and_assoc]
theorem Zjz : ∀ (rs : List Rng) (r : Rng) (b : Int),bnd b (rs ++ [r]) = min (bnd b rs) (r.at r.cur)
 | [],r,b=>rfl
 | a :: rs,r,b=>by rw [List.cons_append,bnd,bnd,Zjz rs r]
theorem Zcj : ∀ (rs : List Rng) (r : Rng) (k : Nat),pot k (rs ++ [r]) = pot k rs + (4 - (k + rs.length)) * r.items.length
 | [],r,k=>by simp [pot]
 | a :: rs,r,k=>by
  rw [List.cons_append,pot,pot,Zcj rs r,List.length_cons,show k + 1 + rs.length = k + (rs.length + 1) by omega];omega
theorem ZlA : ∀ (rs : List Rng) (b : Int),bnd b rs ≤ b
 | [],b=>Int.le_refl _
 | r :: rs,b=>by have:=ZlA rs (min b (r.at r.cur));rw [bnd];omega
theorem Zcd : ∀ {rs : List Rng} {b : Int} {k : Nat},ZaU b k rs → ∀ r ∈ rs,∃ (b' : Int) (k' : Nat),r.Good b' k' ∧ b' ≤ b ∧ bnd b rs ≤ r.at r.cur ∧ k' < k + rs.length
 | [],b,k,_,r,hr=>by simp at hr
 | a :: rs,b,k,h,r,hr=>by
  rcases List.mem_cons.1 hr with rfl | hr
  · refine ⟨b,k,h.1,Int.le_refl _,?_,by simp⟩
    have:=ZlA rs (min b (r.at r.cur))
    rw [bnd];omega
  · obtain ⟨b',k',g1,g2,g3,g4⟩:=Zcd h.2 r hr
    exact ⟨b',k',g1,by omega,g3,by rw [List.length_cons];omega⟩
theorem Zmb {r : Rng} {b : Int} {k : Nat} (h : r.Good b k) {x : Item} (hx : x ∈ r.items) : r.at r.cur ≤ x.time ∧ 0 ≤ x.time ∧ x.time ≤ 1152921504606846976 ∧ x.time < b:=by
 obtain ⟨l,hl,hxl⟩:=List.mem_flatten.1 hx
 obtain ⟨i,hi⟩:=List.mem_iff_getElem?.1 hl
 have:=h.each i l x hi hxl
 have h1:=ZnT h.w.1 this.1
 have h2:=ZnT h.w.1 (i:=0) (j:=i) (by omega)
 have h3 : r.at 0 = r.from':=by show r.from' + 0 * r.width = _;omega
 have:=h.f
 omega
def Uq (x y : Item) : Prop:=Zr x y ≠ 0
def Bf (x y : Item) : Prop:=Zr x y < 0
theorem Uq.symm {x y : Item} (h : Uq x y) : Uq y x:=by have:=Qh x y;unfold Uq at *;omega
def Lad.rest (l : Lad) : List Item:=(l.rungs.map Rng.items).flatten
def Lad.items (l : Lad) : List Item:=l.top ++ (l.bottom ++ l.rest)
structure Lad.Good (l : Lad) : Prop where
 ts : 0 ≤ l.topStart ∧ l.topStart ≤ 1152921504606846977
 top : ∀ x ∈ l.top,l.topStart ≤ x.time ∧ x.time ≤ 1152921504606846976
 chain : ZaU l.topStart 0 l.rungs
 depth : l.rungs.length ≤ 4
 bot : ∀ x ∈ l.bottom,0 ≤ x.time ∧ x.time < bnd l.topStart l.rungs
 srt : l.bottom.Pairwise Bf
 uniq : l.items.Pairwise Uq
 nonneg : 0 ≤ l.moves ∧ 0 ≤ l.compares
def Lad.pot (l : Lad) : Nat:=5 * l.top.length + Abs.pot 0 l.rungs
def Lad.siz (l : Lad) : Nat:=2 * l.pot + l.rungs.length
theorem Zbe (L : List Item) : (Z4 Zj L).Perm L:=by
 classical exact Zhi Zak (Zbr cmpEvC L)
theorem Zf7 {L : List Item} (h : L.Pairwise Uq) : (Z4 Zj L).Pairwise Bf:=by
 have h1:=ZaX cmpEvC L
 have h2 : (Z4 Zj L).Pairwise Uq:=((Zbe L).pairwise_iff Uq.symm).2 h
 refine (h1.and h2).imp fun {x y} h=>?_
 have h3:=h.1
 have h4:=h.2
 rw [cmpEvC.le_iff] at h3
 unfold Uq at h4
 show Zr x y < 0
 have h3 : Zr x y ≤ 0:=h3
 omega
theorem Zfw : ∀ (l : List Item) (x y : Item),y ∈ x :: l → (Zaq x l).time ≤ y.time
 | [],x,y,h=>by rw [List.mem_singleton] at h;subst h;exact Int.le_refl _
 | a :: l,x,y,h=>by
  have e : Zaq x (a :: l) = Zaq (ZeQ x a) l:=rfl
  rw [e]
  have hm : (ZeQ x a).time ≤ x.time ∧ (ZeQ x a).time ≤ a.time:=by unfold ZeQ;split <;> omega
  have h0:=ZfD l (ZeQ x a)
  rcases List.mem_cons.1 h with rfl | h
  · omega
  · rcases List.mem_cons.1 h with rfl | h
    · omega
    · exact Zfw l (ZeQ x a) y (by simp [h])
theorem Zdy : ∀ (l : List Item) (x y : Item),y ∈ x :: l → y.time ≤ (QW x l).time
 | [],x,y,h=>by rw [List.mem_singleton] at h;subst h;exact Int.le_refl _
 | a :: l,x,y,h=>by
  have e : QW x (a :: l) = QW (ZeR x a) l:=rfl
  rw [e]
  have hm : x.time ≤ (ZeR x a).time ∧ a.time ≤ (ZeR x a).time:=by unfold ZeR;split <;> omega
  have h0:=Zgi l (ZeR x a)
  rcases List.mem_cons.1 h with rfl | h
  · omega
  · rcases List.mem_cons.1 h with rfl | h
    · omega
    · exact Zdy l (ZeR x a) y (by simp [h])
structure Filled (l m : Lad) : Prop where
 good : m.Good
 perm : m.items.Perm l.items
 cost : m.moves + m.pot ≤ l.moves + l.pot
 more : l.moves ≤ m.moves
 same : m.compares = l.compares
theorem ZeI {l : Lad} (h : l.Good) (hb : l.bottom = []) (hr : l.rungs = []) {x : Item} {rest : List Item} (ht : l.top = x :: rest) :
 Filled l (Yl l x rest) ∧ (Yl l x rest).siz < l.siz:=by
 have hlen : l.pot = 5 * (rest.length + 1):=by unfold Lad.pot;rw [ht,hr];simp [Abs.pot]
 have hit : l.items = x :: rest:=by unfold Lad.items Lad.rest;rw [ht,hb,hr];simp
 have hsz : l.siz = 10 * (rest.length + 1):=by unfold Lad.siz;rw [hlen,hr];simp;omega
 have htop:=h.top
 rw [ht] at htop
 have hts:=h.ts
 have hun:=h.uniq
 rw [hit] at hun
 have hM : 0 ≤ (QW x rest).time ∧ (QW x rest).time ≤ 1152921504606846976:=by
  rcases Zb9 rest x with e | e
  · rw [e];have:=htop x (by simp);omega
  · have:=htop _ (List.mem_cons_of_mem _ e);omega
 have hm : 0 ≤ (Zaq x rest).time ∧ (Zaq x rest).time ≤ 1152921504606846976:=by
  rcases Zb5 rest x with e | e
  · rw [e];have:=htop x (by simp);omega
  · have:=htop _ (List.mem_cons_of_mem _ e);omega
 have hmM:=Zfw rest x x (by simp)
 have hMM:=Zdy rest x x (by simp)
 unfold Yl
 split
 · next hlt=>
   have hp:=Zbe (x :: rest)
   have hi : (Lad.mk ((QW x rest).time + 1) [] l.rungs (Z4 Zj (x :: rest)) (l.moves + (rest.length + 1)) l.compares).items = Z4 Zj (x :: rest):=by
    unfold Lad.items Lad.rest;rw [hr];simp
   have hpt : (Lad.mk ((QW x rest).time + 1) [] l.rungs (Z4 Zj (x :: rest)) (l.moves + (rest.length + 1)) l.compares).pot = 0:=by
    unfold Lad.pot;rw [hr];simp [Abs.pot]
   refine ⟨⟨⟨by dsimp only;omega,by simp,by rw [hr];trivial,by rw [hr];simp,?_,Zf7 hun,?_,by have:=h.nonneg;dsimp only;omega⟩,?_,?_,by dsimp only;omega,rfl⟩,?_⟩
   · intro y hy
     have hy':=hp.mem_iff.1 hy
     have h1:=htop y hy'
     have h2:=Zdy rest x y hy'
     rw [hr];unfold bnd;dsimp only;omega
   · rw [hi];exact (hp.pairwise_iff Uq.symm).2 hun
   · rw [hi,hit];exact hp
   · rw [hpt,hlen];dsimp only;omega
   · unfold Lad.siz;rw [hpt];dsimp only;rw [hr,show 2 * l.pot + ([] : List Rng).length = 2 * l.pot from rfl,hlen];simp
 · next hlt=>
   obtain ⟨g1,g2,g3,g4,g5⟩:=Zc9 (f:=(Zaq x rest).time) (w:=((QW x rest).time - (Zaq x rest).time + 8) / 8) (its:=x :: rest) (b:=(QW x rest).time + 1) (k:=0) hm (by omega) (by omega) (fun y hy=>by
    have h1:=htop y hy
    have h2:=Zdy rest x y hy
    have h3:=Zfw rest x y hy
    omega)
   generalize hR : YY (Zaq x rest).time (((QW x rest).time - (Zaq x rest).time + 8) / 8) (x :: rest) = R at *
   have hRl : R.items.length = rest.length + 1:=by rw [g2.length_eq];rfl
   have hi : (Lad.mk ((QW x rest).time + 1) [] (l.rungs ++ [R]) l.bottom (l.moves + (rest.length + 1)) l.compares).items = R.items:=by
    unfold Lad.items Lad.rest;rw [hr,hb];simp
   have hpt : (Lad.mk ((QW x rest).time + 1) [] (l.rungs ++ [R]) l.bottom (l.moves + (rest.length + 1)) l.compares).pot = 4 * (rest.length + 1):=by
    unfold Lad.pot;rw [hr];simp [Abs.pot,hRl]
   refine ⟨⟨⟨by dsimp only;omega,by simp,by rw [hr];exact ⟨g1,trivial⟩,by rw [hr];simp,by rw [hb];simp,by rw [hb];simp,?_,by have:=h.nonneg;dsimp only;omega⟩,?_,?_,by dsimp only;omega,rfl⟩,?_⟩
   · rw [hi];exact (g2.pairwise_iff Uq.symm).2 hun
   · rw [hi,hit];exact g2
   · rw [hpt,hlen];dsimp only;omega
   · unfold Lad.siz;rw [hpt];dsimp only;rw [hr];show _ < 2 * l.pot + 0;rw [hlen];simp;omega
theorem Zee {l : Lad} (h : l.Good) (hb : l.bottom = []) {rs : List Rng} {r : Rng} (hr : l.rungs = rs ++ [r]) :
 Filled l (ZO l rs r) ∧ (ZO l rs r).siz < l.siz:=by
 have hch:=h.chain
 rw [hr,Za9] at hch
 obtain ⟨hc1,hc2⟩:=hch
 rw [Nat.zero_add] at hc2
 have hdp:=h.depth
 rw [hr,List.length_append,List.length_singleton] at hdp
 have hpt0 : l.pot = 5 * l.top.length + (Abs.pot 0 rs + (4 - rs.length) * r.items.length):=by unfold Lad.pot;rw [hr,Zcj,Nat.zero_add]
 have hsz : l.siz = 2 * l.pot + (rs.length + 1):=by unfold Lad.siz;rw [hr];simp
 have hit : l.items = l.top ++ ((rs.map Rng.items).flatten ++ r.items):=by unfold Lad.items Lad.rest;rw [hb,hr];simp
 have hun:=h.uniq
 obtain ⟨q,hq⟩ : ∃ q,4 - rs.length = q + 1:=⟨3 - rs.length,by omega⟩
 rw [hq] at hpt0
 unfold ZO
 by_cases hn : (Zv r).2.2.2 = true
 · obtain ⟨i,out,e,hi8,hget,hne,hg,hp⟩:=Zkg hc2 hn
   rw [if_pos hn]
   have hlen : r.items.length = out.length + (Zv r).1.items.length:=by rw [hp.length_eq,List.length_append]
   have hout : 1 ≤ out.length:=by cases out with
    | nil=>exact absurd rfl hne
    | cons a t=>simp
   have hmul : (q + 1) * r.items.length = (q * out.length + out.length) + (q + 1) * (Zv r).1.items.length:=by rw [hlen,Nat.mul_add,Nat.succ_mul]
   rw [hmul] at hpt0
   have heach:=fun x hx=>hc2.each i out x hget hx
   have e1 : (Zv r).2.1 = out:=by rw [e]
   have e2 : (Zv r).2.2.1 = r.at i:=by rw [e]
   have e3 : (Zv r).1.width = r.width:=by rw [e]
   have e4 : (Zv r).1.at (Zv r).1.cur = r.at (i + 1):=by rw [e];rfl
   rw [e1,e2,e3]
   generalize hR : (Zv r).1 = r' at *
   have hbn : bnd l.topStart (rs ++ [r']) = min (bnd l.topStart rs) (r.at (i + 1)):=by rw [Zjz,e4]
   have hch' : ZaU l.topStart 0 (rs ++ [r']):=by rw [Za9,Nat.zero_add];exact ⟨hc1,hg⟩
   have hnn:=h.nonneg
   have hat0:=ZnT hc2.w.1 (i:=0) (j:=i) (by omega)
   have hat1 : r.at 0 = r.from':=by show r.from' + 0 * r.width = _;omega
   have hats:=Zq0 r i
   have hat8:=ZnT hc2.w.1 (i:=(i : Int) + 1) (j:=8) (by omega)
   have hf0:=hc2.f
   have hw0:=hc2.w
   have he0:=hc2.e
   have houtu : out.Pairwise Uq:=by
    rw [hit] at hun
    have h1:=(List.pairwise_append.1 (List.pairwise_append.1 hun).2.1).2.1
    exact (List.pairwise_append.1 ((hp.pairwise_iff Uq.symm).1 h1)).1
   split
   · next hs=>
     have h4:=hs.2.1
     obtain ⟨a0,ha0⟩ : ∃ a0,a0 ∈ out:=by cases out with
      | nil=>exact absurd rfl hne
      | cons a t=>exact ⟨a,by simp⟩
     have hea:=heach a0 ha0
     obtain ⟨g1,g2,g3,g4,g5⟩:=Zc9 (f:=r.at i) (w:=(r.width + 7) / 8) (its:=out) (b:=min (bnd l.topStart rs) (r.at (i + 1))) (k:=0 + (rs ++ [r']).length) (by omega) (by omega) (by rw [List.length_append,List.length_singleton];omega) (fun y hy=>by
      have h1:=heach y hy
      omega)
     generalize hS : YY (r.at i) ((r.width + 7) / 8) out = S at *
     have hp2 : (l.top ++ ([] ++ (((rs ++ [r']) ++ [S]).map Rng.items).flatten)).Perm l.items:=by
      rw [hit,List.nil_append]
      refine List.Perm.append_left _ ?_
      simp only [List.map_append,List.flatten_append,List.map_cons,List.map_nil,List.flatten_cons,List.flatten_nil,List.append_nil,List.append_assoc]
      refine List.Perm.append_left _ ?_
      exact (List.Perm.append_left r'.items g2).trans (List.perm_append_comm.trans hp.symm)
     have hpt1 : Abs.pot 0 ((rs ++ [r']) ++ [S]) = Abs.pot 0 rs + (q + 1) * r'.items.length + q * out.length:=by
      rw [Zcj,Zcj,Nat.zero_add,Nat.zero_add,hq,List.length_append,List.length_singleton,show 4 - (rs.length + 1) = q by omega,g2.length_eq]
     refine ⟨⟨⟨h.ts,h.top,?_,by simp;omega,by rw [hb];simp,by rw [hb];simp,?_,by dsimp only;omega⟩,?_,?_,by dsimp only;omega,rfl⟩,?_⟩
     · rw [Za9,hbn];exact ⟨hch',g1⟩
     · unfold Lad.items Lad.rest;dsimp only;rw [hb];exact (hp2.pairwise_iff Uq.symm).2 hun
     · show List.Perm (l.top ++ (l.bottom ++ (((rs ++ [r']) ++ [S]).map Rng.items).flatten)) l.items
       rw [hb];exact hp2
     · rw [hpt0];unfold Lad.pot;dsimp only;rw [hpt1];omega
     · rw [hsz,hpt0];unfold Lad.siz Lad.pot;dsimp only;rw [hpt1,List.length_append,List.length_append,List.length_singleton,List.length_singleton];omega
   · have hp1:=Zbe out
     have hp2 : (l.top ++ (Z4 Zj out ++ ((rs ++ [r']).map Rng.items).flatten)).Perm l.items:=by
      rw [hit]
      refine List.Perm.append_left _ ?_
      simp only [List.map_append,List.flatten_append,List.map_cons,List.map_nil,List.flatten_cons,List.flatten_nil,List.append_nil]
      refine (List.perm_append_comm_assoc ..).trans (List.Perm.append_left _ ?_)
      exact (List.Perm.append_right _ hp1).trans hp.symm
     have hpt1 : Abs.pot 0 (rs ++ [r']) = Abs.pot 0 rs + (q + 1) * r'.items.length:=by
      rw [Zcj,Nat.zero_add,hq]
     refine ⟨⟨⟨h.ts,h.top,hch',by simp;omega,?_,Zf7 houtu,?_,by dsimp only;omega⟩,?_,?_,by dsimp only;omega,rfl⟩,?_⟩
     · intro y hy
       have h1:=heach y (hp1.mem_iff.1 hy)
       rw [hbn];omega
     · unfold Lad.items Lad.rest;dsimp only;exact (hp2.pairwise_iff Uq.symm).2 hun
     · exact hp2
     · rw [hpt0];unfold Lad.pot;dsimp only;rw [hpt1];omega
     · rw [hsz,hpt0];unfold Lad.siz Lad.pot;dsimp only;rw [hpt1,List.length_append,List.length_singleton];omega
 · rw [if_neg hn]
   have h0:=ZjC hc2 hn
   have hi2 : (l.top ++ (l.bottom ++ (rs.map Rng.items).flatten)) = l.items:=by rw [hit,hb,h0];simp
   have hpt1 : l.pot = 5 * l.top.length + Abs.pot 0 rs:=by rw [hpt0,h0];simp
   refine ⟨⟨⟨h.ts,h.top,hc1,by dsimp only;omega,by rw [hb];simp,by rw [hb];simp,?_,h.nonneg⟩,?_,?_,Int.le_refl _,rfl⟩,?_⟩
   · unfold Lad.items Lad.rest;dsimp only;rw [hi2];exact hun
   · show List.Perm (l.top ++ (l.bottom ++ (rs.map Rng.items).flatten)) l.items
     rw [hi2]
   · rw [hpt1];unfold Lad.pot;dsimp only;omega
   · rw [hsz,hpt1];unfold Lad.siz Lad.pot;dsimp only;omega
theorem Zht {l : Lad} (h : l.Good) (hb : l.bottom = []) (hne : ¬ (l.rungs = [] ∧ l.top = [])) : Filled l (Qe l) ∧ (Qe l).siz < l.siz:=by
 rcases List.eq_nil_or_concat l.rungs with hr | ⟨rs,r,hr⟩
 · cases ht : l.top with
   | nil=>exact absurd ⟨hr,ht⟩ hne
   | cons x rest=>
    have ef : Qe l = Yl l x rest:=by unfold Qe;rw [hr,ht];rfl
    rw [ef]
    exact ZeI h hb hr ht
 · rw [List.concat_eq_append] at hr
   have ef : Qe l = ZO l rs r:=by unfold Qe;rw [hr];simp
   rw [ef]
   exact Zee h hb hr
structure Lad.Sz (l : Lad) : Prop where
 len : l.items.length < 900000
 cost : l.moves + l.pot ≤ 1000000000
 comp : l.compares ≤ 1000000000
theorem Filled.sz {l m : Lad} (h : Filled l m) (hs : l.Sz) : m.Sz:=
 ⟨by rw [h.perm.length_eq];exact hs.len,by have:=h.cost;have:=hs.cost;omega,by rw [h.same];exact hs.comp⟩
theorem Filled.refl {l : Lad} (h : l.Good) : Filled l l:=⟨h,.refl _,Int.le_refl _,Int.le_refl _,rfl⟩
theorem Filled.trans {l m k : Lad} (h : Filled l m) (g : Filled m k) : Filled l k:=
 ⟨g.good,g.perm.trans h.perm,by have:=h.cost;have:=g.cost;omega,by have:=h.more;have:=g.more;omega,by rw [g.same,h.same]⟩
theorem Zf2 {l : Lad} {r : Rng} (hr : r ∈ l.rungs) : r.items.length ≤ l.items.length:=by
 have h1 : r.items ∈ l.rungs.map Rng.items:=List.mem_map_of_mem hr
 have h2 : r.items.length ≤ l.rest.length:=(List.sublist_flatten_of_mem h1).length_le
 unfold Lad.items
 simp only [List.length_append];omega
theorem Zre {l : Lad} (h : l.Good) (hs : l.Sz) : ∀ r ∈ l.rungs,r.Ok ∧ r.at 8 ≤ 2305843009213693952:=by
 intro r hr
 obtain ⟨b',k',g1,g2,g3,g4⟩:=Zcd h.chain r hr
 have hd:=h.depth
 have hf:=g1.f
 have hw:=g1.w
 have hl:=Zf2 hr
 have hn:=hs.len
 refine ⟨⟨⟨by omega,by omega,g1.c⟩,g1.len,fun b hb=>?_⟩,by have:=g1.e;omega⟩
 have : b.length ≤ r.items.length:=(List.sublist_flatten_of_mem hb).length_le
 omega
theorem Zqk {l : Lad} (h : l.Good) (hs : l.Sz) : l.Fill:=by
 have hd:=h.depth
 have hn:=hs.len
 have hnn:=h.nonneg
 have hc:=hs.cost
 have hts:=h.ts
 refine ⟨by omega,Zre h hs,fun x hx=>by have:=h.top x hx;omega,?_,by omega⟩
 unfold Lad.items at hn
 simp only [List.length_append] at hn
 omega
theorem ZmC {l : Lad} (h : l.Good) (hs : l.Sz) : l.Fits:=by
 have hd:=h.depth
 have hn:=hs.len
 have hnn:=h.nonneg
 have hc:=hs.cost
 have hc2:=hs.comp
 unfold Lad.items at hn
 simp only [List.length_append] at hn
 exact ⟨by omega,by omega,by omega,fun r hr=>(Zre h hs r hr).1,by omega,by omega⟩
theorem Zcg : ∀ (n : Nat) (l : Lad),l.Good → l.Sz → l.siz ≤ n → Qq n l ∧ Filled l (Ql n l) ∧ ((Ql n l).bottom = [] → (Ql n l).rungs = [] ∧ (Ql n l).top = [])
 | 0,l,h,hs,hn=>by
  have h1 : l.rungs = [] ∧ l.top = []:=by
   unfold Lad.siz Lad.pot at hn
   exact ⟨List.eq_nil_of_length_eq_zero (by omega),List.eq_nil_of_length_eq_zero (by omega)⟩
  exact ⟨.inr h1,.refl h,fun _=>h1⟩
 | n + 1,l,h,hs,hn=>by
  by_cases hb : l.bottom = []
  · by_cases he : l.rungs = [] ∧ l.top = []
    · rw [Zat he.1 he.2]
      exact ⟨.inr (.inl he),.refl h,fun _=>he⟩
    · obtain ⟨hf,hlt⟩:=Zht h hb he
      obtain ⟨i1,i2,i3⟩:=Zcg n (Qe l) hf.good (hf.sz hs) (by omega)
      rw [Ql,if_pos hb]
      exact ⟨.inr (.inr ⟨Zqk h hs,i1⟩),hf.trans i2,i3⟩
  · rw [ZcE hb]
    exact ⟨.inl hb,.refl h,fun e=>absurd e hb⟩
def Yf (l : Lad) : Lad × Item × Bool:=Yt l.siz l
def ZaH (l : Lad) : Lad × Item × Bool:=Zmv l.siz l
def ZH (l : Lad) : Lad:=Ql l.siz l
def Lad.pop1 (l : Lad) : Lad:={ l with bottom:=l.bottom.drop 1 }
theorem Yj {l : Lad} (h : l.Good) (hs : l.Sz) : Filled l (ZH l):=(Zcg l.siz l h hs (Nat.le_refl _)).2.1
theorem Zla {l : Lad} (h : l.Good) (hs : l.Sz) : Qq l.siz l:=(Zcg l.siz l h hs (Nat.le_refl _)).1
theorem Zh0 {l : Lad} (h : l.Good) (hs : l.Sz) (hb : (ZH l).bottom = []) : (ZH l).rungs = [] ∧ (ZH l).top = [] ∧ (ZH l).items = [] ∧ l.items = []:=by
 have h1:=(Zcg l.siz l h hs (Nat.le_refl _)).2.2 hb
 have h2 : (ZH l).items = []:=by unfold Lad.items Lad.rest;rw [hb];unfold ZH;rw [h1.1,h1.2];rfl
 refine ⟨h1.1,h1.2,h2,?_⟩
 have:=(Yj h hs).perm
 rw [h2] at this
 exact List.Perm.eq_nil this.symm
theorem Zgl (l : Lad) : Yf l = match (ZH l).bottom with
 | x :: _=>(ZH l,x,true)
 | []=>(ZH l,⟨0,0,0⟩,false):=rfl
theorem Zfd {l : Lad} {x : Item} {t : List Item} (e : (ZH l).bottom = x :: t) : Yf l = (ZH l,x,true):=by rw [Zgl,e]
theorem Zhd {l : Lad} (e : (ZH l).bottom = []) : Yf l = (ZH l,⟨0,0,0⟩,false):=by rw [Zgl,e]
theorem Zem {l : Lad} {x : Item} {t : List Item} (e : (ZH l).bottom = x :: t) : ZaH l = ((ZH l).pop1,x,true):=by
 have h : ZaH l = if (Yf l).2.2 = true then ((Yf l).1.pop1,(Yf l).2.1,true) else Yf l:=rfl
 rw [h,Zfd e,if_pos rfl]
theorem Zgg {l : Lad} (e : (ZH l).bottom = []) : ZaH l = (ZH l,⟨0,0,0⟩,false):=by
 have h : ZaH l = if (Yf l).2.2 = true then ((Yf l).1.pop1,(Yf l).2.1,true) else Yf l:=rfl
 rw [h,Zhd e,if_neg (by simp)]
theorem Zd5 {l : Lad} {x : Item} {t : List Item} (hb : l.bottom = x :: t) : l.items.Perm (x :: l.pop1.items):=by
 unfold Lad.pop1 Lad.items
 rw [hb]
 exact List.perm_middle
theorem Zkf {l : Lad} (h : l.Good) {x : Item} {t : List Item} (hb : l.bottom = x :: t) : ∀ y ∈ l.pop1.items,Bf x y:=by
 intro y hy
 have hx:=h.bot x (by rw [hb];simp)
 have hbl:=ZlA l.rungs l.topStart
 have time : x.time < y.time → Bf x y:=fun e=>by
  unfold Bf Zr or2 ZcA
  rw [if_pos e,if_neg (by decide)];decide
 have e : l.pop1.items = l.top ++ (t ++ l.rest):=by unfold Lad.pop1 Lad.items Lad.rest;dsimp only;rw [hb];rfl
 rw [e] at hy
 rcases List.mem_append.1 hy with hy | hy
 · have:=h.top y hy
   exact time (by omega)
 · rcases List.mem_append.1 hy with hy | hy
   · have:=h.srt
     rw [hb] at this
     exact (List.pairwise_cons.1 this).1 y hy
   · obtain ⟨m,hm,hym⟩:=List.mem_flatten.1 hy
     obtain ⟨r,hr,rfl⟩:=List.mem_map.1 hm
     obtain ⟨b',k',g1,g2,g3,g4⟩:=Zcd h.chain r hr
     have:=Zmb g1 hym
     exact time (by omega)
theorem Znc {l : Lad} (h : l.Good) : l.pop1.Good:=by
 cases hb : l.bottom with
 | nil=>
  have e : l.pop1 = l:=by unfold Lad.pop1;rw [hb];cases l;simp_all
  rw [e];exact h
 | cons x t=>
  have hu:=((Zd5 hb).pairwise_iff Uq.symm).1 h.uniq
  have hs:=h.srt
  refine ⟨h.ts,h.top,h.chain,h.depth,fun y hy=>h.bot y (List.mem_of_mem_drop hy),?_,(List.pairwise_cons.1 hu).2,h.nonneg⟩
  exact hs.sublist (List.drop_sublist _ _)
structure Rel (l : Lad) (S : List Item) : Prop where
 good : l.Good
 srt : S.Pairwise Bf
 perm : S.Perm l.items
theorem Bf.irrefl (x : Item) : ¬ Bf x x:=by unfold Bf;have:=Zak x;have : Zr x x = 0:=this;omega
theorem Bf.asymm {x y : Item} (h : Bf x y) : ¬ Bf y x:=by unfold Bf at *;have:=Qh x y;omega
theorem Bf.trans {x y z : Item} (h : Bf x y) (g : Bf y z) : Bf x z:=by
 have h':=cmpEvC.lt_le (x:=x) (y:=y) (z:=z) h (cmpEvC.lt_le' g)
 exact h'
theorem Zjj {x : Item} {T S : List Item} (hs : S.Pairwise Bf) (hp : S.Perm (x :: T)) (hl : ∀ y ∈ T,Bf x y) : ∃ S',S = x :: S' ∧ S'.Perm T ∧ S'.Pairwise Bf:=by
 cases S with
 | nil=>exact absurd (List.Perm.eq_nil hp.symm) (by simp)
 | cons a S'=>
  have e : a = x:=by
   rcases List.mem_cons.1 (hp.mem_iff.1 (show a ∈ a :: S' by simp)) with e | ha
   · exact e
   · have h1:=hl a ha
     rcases List.mem_cons.1 (hp.mem_iff.2 (show x ∈ x :: T by simp)) with e | hx
     · exact e.symm
     · exact absurd ((List.pairwise_cons.1 hs).1 x hx) h1.asymm
  subst e
  exact ⟨S',rfl,hp.cons_inv,(List.pairwise_cons.1 hs).2⟩
theorem ZiX {l : Lad} {S : List Item} (h : Rel l S) (hs : l.Sz) : Rel (ZH l) S:=⟨(Yj h.good hs).good,h.srt,h.perm.trans (Yj h.good hs).perm.symm⟩
theorem Zmm {l : Lad} {S : List Item} (h : Rel l S) (hs : l.Sz) :
 (S = [] ∧ ZaH l = (ZH l,⟨0,0,0⟩,false) ∧ Yf l = (ZH l,⟨0,0,0⟩,false) ∧ Rel (ZaH l).1 []) ∨
 ∃ x T,S = x :: T ∧ ZaH l = ((ZH l).pop1,x,true) ∧ Yf l = (ZH l,x,true) ∧ (∃ t,(ZH l).bottom = x :: t) ∧ Rel (ZaH l).1 T:=by
 have hf:=Yj h.good hs
 have hr:=ZiX h hs
 cases hb : (ZH l).bottom with
 | nil=>
  have he:=Zh0 h.good hs hb
  have hS : S = []:=by have:=h.perm;rw [he.2.2.2] at this;exact List.Perm.eq_nil this
  subst hS
  refine .inl ⟨rfl,Zgg hb,Zhd hb,?_⟩
  rw [Zgg hb];exact hr
 | cons x t=>
  obtain ⟨S',rfl,h2,h3⟩:=Zjj h.srt (hr.perm.trans (Zd5 hb)) (Zkf hf.good hb)
  refine .inr ⟨x,S',rfl,Zem hb,Zfd hb,⟨t,rfl⟩,?_⟩
  rw [Zem hb]
  exact ⟨Znc hf.good,h3,h2⟩
theorem ZmD {l : Lad} (h : l.Good) (hs : l.Sz) : (ZaH l).1.moves + (ZaH l).1.pot ≤ l.moves + l.pot ∧ l.moves ≤ (ZaH l).1.moves ∧ (ZaH l).1.compares = l.compares ∧ (ZaH l).1.Sz:=by
 have hf:=Yj h hs
 have hz:=hf.sz hs
 have h1:=hf.cost
 have h2:=hf.more
 have h3:=hf.same
 cases hb : (ZH l).bottom with
 | nil=>rw [Zgg hb];exact ⟨h1,h2,h3,hz⟩
 | cons x t=>
  rw [Zem hb]
  refine ⟨h1,h2,h3,⟨?_,hz.cost,hz.comp⟩⟩
  have e:=(Zd5 hb).length_eq
  have:=hz.len
  rw [List.length_cons] at e
  dsimp only;omega
theorem Zer : ∀ (L : List Item) (e : Item),L.Pairwise Bf → (∀ x ∈ L,Uq x e) → (∀ x ∈ L.take (Zfc L e),Bf x e) ∧ (∀ x ∈ L.drop (Zfc L e),Bf e x)
 | [],e,_,_=>⟨by simp [Zfc],by simp [Zfc]⟩
 | a :: L,e,h,hu=>by
  have hp:=List.pairwise_cons.1 h
  obtain ⟨i1,i2⟩:=Zer L e hp.2 fun x hx=>hu x (by simp [hx])
  by_cases ha : Zr a e < 0
  · have ep : Zfc (a :: L) e = Zfc L e + 1:=by unfold Zfc;rw [List.takeWhile_cons,if_pos (by simpa using ha)];rfl
    rw [ep,List.take_succ_cons,List.drop_succ_cons]
    refine ⟨fun x hx=>?_,i2⟩
    rcases List.mem_cons.1 hx with rfl | hx
    · exact ha
    · exact i1 x hx
  · have ep : Zfc (a :: L) e = 0:=by unfold Zfc;rw [List.takeWhile_cons,if_neg (by simpa using ha)];rfl
    rw [ep]
    refine ⟨by simp,fun x hx=>?_⟩
    have hea : Bf e a:=by
     have:=hu a (by simp)
     have h2:=Qh a e
     unfold Uq at this
     unfold Bf;omega
    rcases List.mem_cons.1 hx with rfl | hx
    · exact hea
    · exact hea.trans (hp.1 x hx)
theorem ZaQ (L : List Item) (e : Item) : (ZiY L e).Perm (e :: L):=by
 unfold ZiY
 exact List.perm_middle.trans (by rw [List.take_append_drop])
theorem Zi9 {L : List Item} {e : Item} (h : L.Pairwise Bf) (hu : ∀ x ∈ L,Uq x e) : (ZiY L e).Pairwise Bf:=by
 obtain ⟨h1,h2⟩:=Zer L e h hu
 unfold ZiY
 refine List.pairwise_append.2 ⟨h.sublist (List.take_sublist _ _),List.pairwise_cons.2 ⟨h2,h.sublist (List.drop_sublist _ _)⟩,fun x hx y hy=>?_⟩
 rcases List.mem_cons.1 hy with rfl | hy
 · exact h1 x hx
 · exact (h1 x hx).trans (h2 y hy)
theorem ZnO {L : List Item} {e : Item} (h : L.Pairwise Bf) (hu : ∀ x ∈ L,Uq x e) : mrg Zj L [e] = ZiY L e:=by
 obtain ⟨h1,h2⟩:=Zer L e h hu
 exact Zdm (c:=Zj) (Zfc L e) (fun x hx=>(h1 x hx).asymm) h2
theorem ZmG {L : List Item} {e : Item} (h : L.Pairwise Bf) (hu : ∀ x ∈ L,Uq x e) : Zo2 L e:=by
 intro i j x y hij hx hy hc
 by_cases e' : i = j
 · subst e';rw [hx] at hy;cases hy;exact hc
 · obtain ⟨hi,hx'⟩:=List.getElem?_eq_some_iff.1 hx
   obtain ⟨hj,hy'⟩:=List.getElem?_eq_some_iff.1 hy
   have:=List.pairwise_iff_getElem.1 h i j hi hj (by omega)
   rw [hx',hy'] at this
   exact this.trans hc
theorem Ze2 : ∀ (rs : List Rng) (b t : Int),t < b → (∀ r ∈ rs,t < r.at r.cur) → t < bnd b rs
 | [],b,t,h,_=>h
 | r :: rs,b,t,h,hr=>by
  have:=hr r (by simp)
  rw [bnd]
  exact Ze2 rs _ t (by omega) fun r' h'=>hr r' (by simp [h'])
theorem Ze8 : ∀ (rs : List Rng) (b : Int) (k i : Nat) (it : Item),ZaU b k rs → it.time < b → it.time ≤ 1152921504606846976 → (rs.findIdx? fun r=>!decide (it.time < r.at r.cur)) = some i →
 ZaU b k (rs.modify i fun r=>(ZcK r it).1) ∧ bnd b (rs.modify i fun r=>(ZcK r it).1) = bnd b rs ∧ (((rs.modify i fun r=>(ZcK r it).1).map Rng.items).flatten).Perm (it :: (rs.map Rng.items).flatten) ∧ pot k (rs.modify i fun r=>(ZcK r it).1) ≤ pot k rs + 4 ∧ i < rs.length
 | [],b,k,i,it,_,_,_,h=>by simp at h
 | r :: rs,b,k,i,it,hc,hb,ht,h=>by
  rw [List.findIdx?_cons] at h
  split at h
  · next hp=>
    cases h
    have hp : r.at r.cur ≤ it.time:=by simpa using hp
    obtain ⟨g1,g2,g3,g4,g5,_⟩:=Zg5 hc.1 hp hb ht
    have ea : (putS r it).at (putS r it).cur = r.at r.cur:=by unfold Rng.at;rw [g3,g4,g5]
    have e : (r :: rs).modify 0 (fun r=>(ZcK r it).1) = putS r it :: rs:=rfl
    rw [e]
    refine ⟨⟨g1,by rw [ea];exact hc.2⟩,by rw [bnd,ea,bnd],?_,?_,by simp⟩
    · simp only [List.map_cons,List.flatten_cons]
      exact List.Perm.append_right _ g2
    · rw [pot,pot,g2.length_eq,List.length_cons,Nat.mul_add];omega
  · next hp=>
    have hp : it.time < r.at r.cur:=by simpa using hp
    obtain ⟨j,hj,rfl⟩:=Option.map_eq_some_iff.1 h
    obtain ⟨g1,g2,g3,g4,g5⟩:=Ze8 rs (min b (r.at r.cur)) (k + 1) j it hc.2 (by omega) ht hj
    have e : (r :: rs).modify (j + 1) (fun r=>(ZcK r it).1) = r :: rs.modify j fun r=>(ZcK r it).1:=rfl
    rw [e]
    refine ⟨⟨hc.1,g1⟩,by rw [bnd,bnd,g2],?_,by rw [pot,pot];omega,by simpa using g5⟩
    simp only [List.map_cons,List.flatten_cons]
    exact (List.Perm.append_left _ g3).trans List.perm_middle
structure Ins (l m : Lad) (it : Item) : Prop where
 good : m.Good
 perm : m.items.Perm (it :: l.items)
 moves : m.moves = l.moves + 1
 pot : m.pot ≤ l.pot + 5
 comp : l.compares + 1 ≤ m.compares ∧ m.compares ≤ l.compares + 5
theorem Zkc {l : Lad} (h : l.Good) {it : Item} (ht : 0 ≤ it.time ∧ it.time ≤ 1152921504606846976) (hu : ∀ x ∈ l.items,Uq x it) : Ins l (Z6 l it) it:=by
 have hun : (it :: l.items).Pairwise Uq:=List.pairwise_cons.2 ⟨fun x hx=>(hu x hx).symm,h.uniq⟩
 have hnn:=h.nonneg
 unfold Z6
 split
 · next htop=>
   have hp : ((l.top ++ [it]) ++ (l.bottom ++ l.rest)).Perm (it :: l.items):=by
    rw [List.append_assoc]
    exact List.perm_middle
   refine ⟨⟨h.ts,fun x hx=>?_,h.chain,h.depth,h.bot,h.srt,?_,by dsimp only;omega⟩,hp,rfl,?_,by dsimp only;omega⟩
   · rcases List.mem_append.1 hx with hx | hx
     · exact h.top x hx
     · rw [List.mem_singleton] at hx;subst hx;exact ⟨htop,ht.2⟩
   · exact (hp.pairwise_iff Uq.symm).2 hun
   · unfold Lad.pot;simp;omega
 · next htop=>
   split
   · next i hi=>
     obtain ⟨g1,g2,g3,g4,g5⟩:=Ze8 l.rungs l.topStart 0 i it h.chain (by omega) ht.2 hi
     have hd:=h.depth
     generalize hR : (l.rungs.modify i fun r=>(ZcK r it).1) = R at *
     have hl : R.length = l.rungs.length:=by rw [← hR];simp
     have hp : (l.top ++ (l.bottom ++ (R.map Rng.items).flatten)).Perm (it :: l.items):=by
      refine (List.Perm.append_left _ (List.Perm.append_left _ g3)).trans ?_
      refine (List.Perm.append_left _ List.perm_middle).trans ?_
      exact List.perm_middle
     refine ⟨⟨h.ts,h.top,g1,by dsimp only;omega,fun x hx=>by dsimp only;rw [g2];exact h.bot x hx,h.srt,?_,by dsimp only;omega⟩,hp,rfl,?_,by dsimp only;omega⟩
     · exact (hp.pairwise_iff Uq.symm).2 hun
     · unfold Lad.pot;dsimp only;omega
   · next hn=>
     have hn':=List.findIdx?_eq_none_iff.1 hn
     have hd:=h.depth
     have hlt : it.time < bnd l.topStart l.rungs:=Ze2 _ _ _ (by omega) fun r hr=>by simpa using hn' r hr
     have hub : ∀ x ∈ l.bottom,Uq x it:=fun x hx=>hu x (by unfold Lad.items;simp [hx])
     have hp : (l.top ++ (ZiY l.bottom it ++ l.rest)).Perm (it :: l.items):=by
      refine (List.Perm.append_left _ (List.Perm.append_right _ (ZaQ _ _))).trans ?_
      exact List.perm_middle
     refine ⟨⟨h.ts,h.top,h.chain,h.depth,fun x hx=>?_,Zi9 h.srt hub,?_,by dsimp only;omega⟩,hp,rfl,by unfold Lad.pot;dsimp only;omega,by dsimp only;omega⟩
     · rcases List.mem_cons.1 ((ZaQ _ _).mem_iff.1 hx) with rfl | hx
       · exact ⟨ht.1,hlt⟩
       · exact h.bot x hx
     · exact (hp.pairwise_iff Uq.symm).2 hun
theorem ZmK {l : Lad} {S : List Item} (h : Rel l S) {it : Item} (ht : 0 ≤ it.time ∧ it.time ≤ 1152921504606846976) (hu : ∀ x ∈ S,Uq x it) : Rel (Z6 l it) (ZiY S it) ∧ Ins l (Z6 l it) it ∧ Zo2 l.bottom it:=by
 have hu' : ∀ x ∈ l.items,Uq x it:=fun x hx=>hu x (h.perm.mem_iff.2 hx)
 have hi:=Zkc h.good ht hu'
 refine ⟨⟨hi.good,Zi9 h.srt hu,(ZaQ _ _).trans ((h.perm.cons _).trans hi.perm.symm)⟩,hi,?_⟩
 exact ZmG h.good.srt fun x hx=>hu' x (by unfold Lad.items;simp [hx])
end Go.Proofs.YtdjnjchpgccbiaaGreat.Abs
