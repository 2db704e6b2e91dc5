/- Small lemmas that the laws of workloads and of ladders share. -/
import Derived.Test.YtdjnjchpgccbiaaGreatK1
import Derived.Test.YtdjnjchpgccbiaaGreatL3
namespace Go.Proofs.YtdjnjchpgccbiaaGreat.Abs
open Go.Proofs
set_option maxRecDepth 10000
set_option linter.unusedSimpArgs false
set_option linter.unusedVariables false
theorem Zop {l : Lad} (h : l.Good) (hs : l.Sz) : Qq l.siz l ∧ (Yf l).1.bottom.length < 1000000:=by
 refine ⟨Zla h hs,?_⟩
 have hf:=Yj h hs
 have hb : (ZH l).bottom.length ≤ (ZH l).items.length:=by unfold Lad.items;simp only [List.length_append];omega
 have:=hf.perm.length_eq
 have:=hs.len
 have e : (Yf l).1 = ZH l:=by rw [Zgl];split <;> rfl
 rw [e];omega
theorem YB (t b : Int) (hb : 0 < b) : -b < t.tmod b ∧ t.tmod b < b:=by
 refine ⟨?_,Int.tmod_lt_of_pos _ hb⟩
 rcases Int.le_total 0 t with h | h
 · have:=Int.tmod_nonneg b h;omega
 · have h1:=Int.tmod_lt_of_pos (-t) hb
   rw [Int.neg_tmod] at h1
   omega
instance : DecidableEq Item:=fun a b=>decidable_of_iff (a.time = b.time ∧ a.seq = b.seq ∧ a.slot = b.slot) (by cases a;cases b;simp)
theorem Zgr {m : Nat} {row : List D} (h : Z5 tab (m + 1) 3 row) : ∃ x : Int,row = [.c (.int .i64 x)] ∧ -9223372036854775808 ≤ x ∧ x ≤ 9223372036854775807:=by
 obtain ⟨x,rfl,hw⟩ : ∃ x : Int,row = [.c (.int .i64 x)] ∧ (Lit.int .i64 x).wf = true:=h
 exact ⟨x,rfl,by simpa [Lit.wf,IntKind.min,IntKind.max,IntKind.signed,IntKind.bits] using hw⟩
theorem ZlU {α : Type} {f : α → List D} {p : List D → Prop} (hp : ∀ r,p r → ∃ x,r = f x) : ∀ (rows : List (List D)),(∀ r ∈ rows,p r) → ∃ l : List α,rows = l.map f
 | [],_=>⟨[],rfl⟩
 | r :: rows,h=>by
  obtain ⟨l,rfl⟩:=ZlU hp rows fun r hr=>h r (by simp [hr])
  obtain ⟨x,rfl⟩:=hp r (h r (by simp))
  exact ⟨x :: l,rfl⟩
theorem Zte {α : Type} {f : α → List D} {m sz : Nat} {t e : TypeId} (hk : (tab t).map Ty.kind = some (.slice e)) (hsz : ZcX tab e = sz) {row : List D} (hp : ∀ r,Z5 tab m e r → ∃ x,r = f x) (h : Z5 tab (m + 1) t row) : ∃ l : List α,row = [.lst sz (l.map f)]:=by
 unfold Z5 at h
 rw [hk] at h
 obtain ⟨rows,rfl,_,hr⟩:=h
 obtain ⟨l,rfl⟩:=ZlU hp rows hr
 rw [hsz]
 exact ⟨l,rfl⟩
theorem Zez (f w i : Int) (hf : 0 ≤ f ∧ f ≤ 2305843009213693952) (hw : 1 ≤ w ∧ w ≤ 288230376151711744) (hi : 0 ≤ i ∧ i ≤ 8) : PSpec Tryz.prog 261 [V.int f,V.int w,V.int i] (V.int (f + i * w)):=by
 have hm:=Zev hi hw
 refine pspec tab_ok mix Tryz.func261 (by kernel_rfl) rfl rfl ?_
 (refine go ?_; try trivial)
 exact .same rfl
theorem Zlk (f w t : Int) (hf : 0 ≤ f ∧ f ≤ t ∧ t ≤ 4611686018427387904) (hw : 1 ≤ w) : PSpec Tryz.prog 281 [V.int f,V.int w,V.int t] (V.int ((t - f) / w)):=by
 refine pspec tab_ok mix Tryz.func281 (by kernel_rfl) rfl rfl ?_
 (refine go ?_; try trivial)
 have hd : 0 ≤ (t - f) / w:=Int.ediv_nonneg (by omega) (by omega)
 have hd2 : (t - f) / w ≤ t - f:=Int.ediv_le_self _ (by omega)
 rw [Int.tdiv_eq_ediv_of_nonneg (by omega)]
 refine wrB (by omega) (go ?_)
 exact .same rfl
theorem ZkS (a b : Int) (ha : 0 ≤ a ∧ a ≤ b ∧ b ≤ 2305843009213693952) : PSpec Tryz.prog 300 [V.int a,V.int b] (V.int ((b - a + 8) / 8)):=by
 refine pspec tab_ok mix Tryz.func300 (by kernel_rfl) rfl rfl ?_
 (refine go ?_; try trivial)
 rw [Int.tdiv_eq_ediv_of_nonneg (by omega)]
 refine wrB (by omega) (go ?_)
 exact .same (by congr 2;omega)
theorem Zj4 (w : Int) (hw : 0 ≤ w ∧ w ≤ 4611686018427387904) : PSpec Tryz.prog 302 [V.int w] (V.int ((w + 7) / 8)):=by
 refine pspec tab_ok mix Tryz.func302 (by kernel_rfl) rfl rfl ?_
 (refine go ?_; try trivial)
 rw [Int.tdiv_eq_ediv_of_nonneg (by omega)]
 refine wrB (by omega) (go ?_)
 exact .same rfl
theorem ZbO (r : Rng) (hr : r.Fits) : PSpec Tryz.prog 232 [r.v] (V.int (r.at r.cur)):=by
 refine pspec tab_ok mix Tryz.func232 (by kernel_rfl) rfl rfl ?_
 (refine go ?_; try trivial)
 refine Zh (Zez r.from' r.width r.cur hr.f hr.w hr.c) (go ?_)
 exact .same rfl
theorem ZqZ (r : Rng) (hr : r.Fits) : PSpec Tryz.prog 280 [r.v] (V.int (r.at 8)):=by
 refine pspec tab_ok mix Tryz.func280 (by kernel_rfl) rfl rfl ?_
 (refine go ?_; try trivial)
 refine Zh (Zez r.from' r.width 8 hr.f hr.w (by omega)) (go ?_)
 exact .same rfl
theorem Zij (f w : Int) : PSpec Tryz.prog 308 [V.int f,V.int w] (Rng.v ⟨f,w,0,List.replicate 8 []⟩):=by
 refine pspec tab_ok mix Tryz.func308 (by kernel_rfl) rfl rfl ?_
 (refine go ?_; try trivial)
 refine Zoz tab_ok 8 [.lst 3 []] _ rfl (.sl 3 .nil) rfl rfl (by omega) rfl (go ?_)
 refine Qo (go ?_)
 refine cb ⟨rfl,rfl⟩ (go ?_);try trivial
theorem Zo5 (r : Rng) (i : Nat) (b : List Item) (hi : i < r.bkts.length) (hl : r.bkts.length < 1073741824) : LSpec Tryz.prog 282 [r.v,V.int i,ZI b] [] 0 (Rng.v { r with bkts:=r.bkts.set i b }) [] 0:=by
 refine lspec tab_ok mix Tryz.func282 (by kernel_rfl) (by rfl) (by rfl) (by rfl) (by rfl) ?_
 (refine go ?_; try trivial)
 refine atB (by simpa using hi) (go ?_)
 refine .mk (ZgF r.bkts[i]) (by simp [hi]) (go ?_)
 refine .mk [] (go ?_)
 all_goals exact cb ⟨by simp,by rw [List.map_set];rfl⟩ (by (refine go ?_; try trivial))
theorem ZoX (r : Rng) (i : Nat) (b : List Item) (hi : i < r.bkts.length) (hl : r.bkts.length < 1073741824) : PSpec Tryz.prog 282 [r.v,V.int i,ZI b] (Rng.v { r with bkts:=r.bkts.set i b }):=by
 refine pspec tab_ok mix Tryz.func282 (by kernel_rfl) rfl rfl ?_
 (refine go ?_; try trivial)
 refine atB (by simpa using hi) (go ?_)
 refine .mk (ZgF r.bkts[i]) (by simp [hi]) (go ?_)
 refine Qo (go ?_)
 all_goals exact cb ⟨by simp,by rw [List.map_set];rfl⟩ (by (refine go ?_; try trivial))
theorem ZmZ (r : Rng) (it : Item) (hr : r.Fits) (hb : r.bkts.length = 8) (hl : ∀ b ∈ r.bkts,b.length < 1000000) : PSpec Tryz.prog 251 [r.v,it.v] (.tup [(ZcK r it).1.v,V.bool (ZcK r it).2]):=by
 refine pspec tab_ok mix Tryz.func251 (by kernel_rfl) rfl rfl ?_
 (refine go ?_; try trivial)
 refine Zn (ZbO r hr) (go ?_)
 refine Zf (fun g1=>?_) (fun g1=>?_) <;> (refine go ?_; try trivial)
 · refine Qo ?_
   rw [ZcK,if_pos (.inl g1)]
   (refine go ?_; try trivial)
 refine Zn (ZqZ r hr) (go ?_)
 refine Zf (fun g2=>?_) (fun g2=>?_) <;> (refine go ?_; try trivial)
 · refine Qo ?_
   rw [ZcK,if_pos (.inr g2)]
   (refine go ?_; try trivial)
 have g3 : ¬ (it.time < r.at r.cur ∨ r.at 8 ≤ it.time):=by omega
 obtain ⟨q1,q2,q3,q4⟩:=Zk5 hr hb g3
 refine Zh (Zlk r.from' r.width it.time ⟨hr.f.1,q1,q2⟩ hr.w.1) ?_
 rw [ZcK,if_neg g3]
 dsimp only
 obtain ⟨i,hi⟩ : ∃ i : Nat,(it.time - r.from') / r.width = (i : Int):=⟨_,(Int.toNat_of_nonneg q3).symm⟩
 rw [hi] at q4 ⊢
 rw [Int.toNat_natCast] at q4 ⊢
 obtain ⟨b,hbi⟩:=ZF q4
 have hbl:=hl b (List.mem_of_getElem? hbi)
 rw [hbi,Option.getD_some]
 (refine go ?_; try trivial)
 refine Zcw hbi (go ?_)
 refine Za (Zo5 r i (b ++ [it]) q4 (by omega)) [] [2240] rfl (go ?_)
 refine cb ⟨by simp,by simp [Item.row]⟩ (go ?_)
 refine Qo (go ?_);try trivial
theorem ZoZ (r : Rng) (hr : r.Fits) (hb : r.bkts.length = 8) : PSpec Tryz.prog 301 [r.v] (.tup [(Zv r).1.v,ZI (Zv r).2.1,V.int (Zv r).2.2.1,V.bool (Zv r).2.2.2]):=by
 refine pspec tab_ok mix Tryz.func301 (by kernel_rfl) rfl rfl ?_
 (refine go ?_; try trivial)
 refine Y3 tab_ok mix [1,2] [0,64] (fun i : Nat=>[(6,V.int i)]) (fun i=>[]) (fun i=>i ≤ r.bkts.length ∧ ∀ x ∈ r.bkts.take i,¬ 0 < x.length) (fun i=>r.bkts.length - i) [] 0 rfl ⟨by omega,by simp⟩ (by (refine go ?_; try trivial)) ?_
 rintro i ⟨h1,h2⟩
 (refine go ?_; try trivial)
 refine Zf (fun g=>?_) (fun g=>?_) <;> (refine go ?_; try trivial)
 · simp at g
   obtain ⟨x,hx⟩:=ZF g
   refine Zcw hx (go ?_)
   refine Zf (fun e=>?_) (fun e=>?_) <;> (refine go ?_; try trivial)
   · simp at e
     have hfi : r.bkts.findIdx? (fun b=>decide (0 < b.length)) = some i:=by
      rw [List.findIdx?_eq_some_iff_getElem]
      obtain ⟨hl',hx'⟩:=List.getElem?_eq_some_iff.1 hx
      refine ⟨hl',by rw [hx'];simpa using e,fun j hj=>?_⟩
      have:=h2 r.bkts[j] (List.mem_take_iff_getElem.2 ⟨j,by omega,rfl⟩)
      simpa using this
     have en : Zv r = (⟨r.from',r.width,i + 1,r.bkts.set i []⟩,x,r.at i,true):=by unfold Zv;rw [hfi];simp [hx]
     rw [en]
     refine Zcw hx (go ?_)
     refine Zs5 (ZoX r i [] g (by omega)) (go ?_)
     refine Zn (Zez r.from' r.width i hr.f hr.w (by omega)) (go ?_)
     refine Qo (go ?_);try trivial
   · simp at e
     refine .mk [] (i + 1) ⟨by omega,?_⟩ (by omega) ?_
     · rw [List.take_add_one,hx]
       intro y hy
       rcases List.mem_append.1 hy with hy | hy
       · exact h2 y hy
       · simp at hy;subst hy;simp [e]
     · (refine go ?_; try trivial)
 · have e : i = r.bkts.length:=by simp at g;omega
   subst e
   rw [List.take_length] at h2
   have hfi : r.bkts.findIdx? (fun b=>decide (0 < b.length)) = none:=List.findIdx?_eq_none_iff.2 fun x hx=>by simpa using h2 x hx
   have en : Zv r = (⟨r.from',r.width,8,r.bkts⟩,[],0,false):=by unfold Zv;rw [hfi]
   rw [en]
   refine Qo (go ?_);try trivial
theorem Zd0 (a b : Int) : PSpec Tryz.prog 288 [V.int a,V.int b] (V.int (ZcA a b)):=by
 refine pspec tab_ok mix Tryz.func288 (by kernel_rfl) rfl rfl ?_
 (refine go ?_; try trivial)
 refine Zf (fun h=>?_) (fun h=>?_) <;> (refine go ?_; try trivial)
 · exact .same (by simp [ZcA,h])
 · refine Zf (fun g=>?_) (fun g=>?_) <;> (refine go ?_; try trivial)
   · exact .same (by simp [ZcA,h,g])
   · exact .same (by simp [ZcA,h,g])
theorem Zg3 (a b : Int) : ZcA a b = 0 ↔ a = b:=by
 rcases ZN a b with h | h | h <;> simp [h.1] <;> omega
theorem Zel (x y : Item) : PSpec Tryz.prog 262 [x.v,y.v] (V.int (Zr x y)):=by
 refine pspec tab_ok mix Tryz.func262 (by kernel_rfl) rfl rfl ?_
 (refine go ?_; try trivial)
 refine Za3 (fun e=>?_) (fun e=>?_) <;> (refine go ?_; try trivial)
 · refine Zh (Zd0 _ _) (go ?_)
   exact .same (by simp [Zr,or2,Zg3,e])
 · refine Zh (Zd0 _ _) (go ?_)
   exact .same (by simp [Zr,or2,Zg3,e])
def Zhh (l : List Item) (it : Item) : List Item:=mrg Zj l [it]
theorem Zo7 {l : List Item} {it : Item} {k : Nat} (hs : Srt Zj l) (hk : k ≤ l.length) (h1 : ∀ x ∈ l.drop k,0 < Zr x it) (h2 : ∀ x,0 < k → l[k - 1]? = some x → ¬ 0 < Zr x it) : Zhh l it = l.take k ++ it :: l.drop k:=by
 refine Zdm (c:=Zj) k (fun x hx=>?_) (fun x hx=>?_)
 · rcases Nat.eq_zero_or_pos k with h0 | h0
   · subst h0;simp at hx
   · obtain ⟨y,hy⟩:=ZF (show k - 1 < l.length by omega)
     have h3:=h2 y h0 hy
     have h4 : le Zj x y:=Zcc hs YH hy x (by rw [show k - 1 + 1 = k by omega];exact hx)
     have h5 : le Zj y it:=by rw [cmpEvC.le_iff];show Zr y it ≤ 0;omega
     exact cmpEvC.le_trans h4 h5
 · have:=h1 x hx
   have h2:=Qh x it
   show Zr it x < 0;omega
theorem Zpz (l : List Item) (it : Item) (hl : l.length < 1000000) (hs : Srt Zj l) : PSpec Tryz.prog 233 [ZI l,it.v] (ZI (Zhh l it)):=by
 refine pspec tab_ok mix Tryz.func233 (by kernel_rfl) rfl rfl ?_
 (refine go ?_; try trivial)
 refine Y3 tab_ok mix [0,3] [0] (fun k : Nat=>[(5,V.int k)]) (fun k=>[]) (fun k=>k ≤ l.length ∧ ∀ x ∈ l.drop k,0 < Zr x it) (fun k=>k) [] l.length rfl ⟨by omega,by simp⟩ (by (refine go ?_; try trivial)) ?_
 rintro k ⟨h1,h2⟩
 have fin : (∀ x,0 < k → l[k - 1]? = some x → ¬ 0 < Zr x it) → Zhh l it = l.take k ++ it :: l.drop k:=fun h3=>Zo7 hs h1 h2 h3
 (refine go ?_; try trivial)
 refine Zf (fun g=>?_) (fun g=>?_) <;> (refine go ?_; try trivial)
 · obtain ⟨q,rfl⟩ : ∃ q,k = q + 1:=⟨k - 1,by omega⟩
   obtain ⟨x,hx⟩:=ZF (show q < l.length by omega)
   refine QI q x (by omega) hx (go ?_)
   refine Zn (Zel x it) (go ?_)
   refine Zf (fun e=>?_) (fun e=>?_) <;> (refine go ?_; try trivial)
   · refine .mk [] q ⟨by omega,fun y hy=>?_⟩ (by omega) ?_
     · rw [Zb3 hx] at hy
       rcases List.mem_cons.1 hy with rfl | hy
       · exact e
       · exact h2 y hy
     · (refine go ?_; try trivial)
   · rw [fin fun y _ hy=>by rw [show q + 1 - 1 = q by omega,hx] at hy;cases hy;exact e]
     refine slB 0 (q + 1) rfl rfl (by simp;omega) (go ?_)
     refine slB (q + 1) l.length rfl (by simp [Zkw]) (by simp;omega) (go ?_)
     refine Qo (go ?_)
     all_goals exact cb ⟨by simp;omega,by simp [Item.row,List.take_of_length_le]⟩ (by (refine go ?_; try trivial))
 · have e : k = 0:=by omega
   subst e
   rw [fin fun y h0=>absurd h0 (by omega)]
   refine slB 0 0 rfl rfl (by omega) (go ?_)
   refine slB 0 l.length rfl (by simp [Zkw]) (by simp) (go ?_)
   refine Qo (go ?_)
   all_goals exact cb ⟨by simp;omega,by simp [Item.row,List.take_of_length_le]⟩ (by (refine go ?_; try trivial))
theorem Zdr (l : List Item) (hl : l.length < 1000000) : PSpec Tryz.prog 185 [ZI l] (ZI (Z4 Zj l)):=by
 have hs : ∀ i,Srt Zj (Z4 Zj (l.take i)):=fun i=>ZaX cmpEvC _
 have hln : ∀ i,(Z4 Zj (l.take i)).length ≤ l.length:=fun i=>by rw [Za0 cmpEvC,List.length_take];omega
 have hst : ∀ (i : Nat) (x : Item),l[i]? = some x → Zhh (Z4 Zj (l.take i)) x = Z4 Zj (l.take (i + 1)):=fun i x hx=>by
  rw [List.take_add_one,hx,Option.toList_some,Zj7];rfl
 refine pspec tab_ok mix Tryz.func185 (by kernel_rfl) rfl rfl ?_
 (refine go ?_; try trivial)
 refine Y3 tab_ok mix [0] [] (fun i : Nat=>[(3,ZI (Z4 Zj (l.take i))),(4,V.int i)]) (fun i=>[]) (fun i=>i ≤ l.length) (fun i=>l.length - i) [] 0 rfl (by omega) (by (refine go ?_; try trivial)) ?_
 rintro i hi
 have h1:=hs i
 have h2:=hln i
 (refine go ?_; try trivial)
 refine Zf (fun g=>?_) (fun g=>?_) <;> (refine go ?_; try trivial)
 · have g' : i < l.length:=by simpa using g
   obtain ⟨x,hx⟩:=ZF g'
   refine Zcw hx (go ?_)
   refine Zh (Zpz (Z4 Zj (l.take i)) x (by omega) h1) ?_
   rw [hst i x hx]
   (refine go ?_; try trivial)
   refine .mk [] (i + 1) (by omega) (by omega) (go ?_);try trivial
 · have e : i = l.length:=by simp at g;omega
   subst e
   rw [List.take_length]
   refine Qo (go ?_);try trivial
theorem ZgT (rs : List Rng) (i : Nat) (r : Rng) (hi : i < rs.length) (hl : rs.length < 1073741824) : PSpec Tryz.prog 252 [Zb7 rs,V.int i,r.v] (Zb7 (rs.set i r)):=by
 refine pspec tab_ok mix Tryz.func252 (by kernel_rfl) rfl rfl ?_
 (refine go ?_; try trivial)
 refine atB (by simpa using hi) (go ?_)
 refine .mk (Rng.row rs[i]) (by simp [hi]) (go ?_)
 refine Qo (go ?_)
 all_goals exact cb ⟨by simp,by rw [List.map_set];rfl⟩ (by (refine go ?_; try trivial))
theorem Znx {l : List Item} (h : l.Pairwise Bf) : Srt Zj l:=h.imp fun h=>cmpEvC.lt_le' h
set_option maxHeartbeats 1000000 in
theorem Zku (l : Lad) (it : Item) (hf : l.Fits) (hs : l.bottom.Pairwise Bf) (hu : ∀ x ∈ l.bottom,Uq x it) : PSpec Tryz.prog 206 [l.v,it.v] ((Z6 l it).v):=by
 obtain ⟨f1,f2,f3,f4,f5,f6⟩:=hf
 refine pspec tab_ok mix Tryz.func206 (by kernel_rfl) rfl rfl ?_
 (refine go ?_; try trivial)
 refine Zf (fun g=>?_) (fun g=>?_) <;> (refine go ?_; try trivial)
 · refine Qo ?_
   rw [Z6,if_pos g]
   (refine go ?_; try trivial)
   all_goals exact cb ⟨by simp,by simp [Item.row]⟩ (by (refine go ?_; try trivial))
 rw [Z6,if_neg g]
 refine Y3 tab_ok mix [2,3,4] [64,128] (fun i : Nat=>[(6,V.int i)]) (fun i=>[(0,.rows 6 [[V.int l.topStart,ZI l.top,Zb7 l.rungs,ZI l.bottom,V.int (l.moves + 1),V.int (l.compares + 1 + i)]])]) (fun i=>i ≤ l.rungs.length ∧ ∀ r ∈ l.rungs.take i,it.time < r.at r.cur) (fun i=>l.rungs.length - i) [] 0 rfl ⟨by omega,by simp⟩ (by (refine go ?_; try trivial)) ?_
 rintro i ⟨h1,h2⟩
 (refine go ?_; try trivial)
 refine Zf (fun u=>?_) (fun u=>?_) <;> (refine go ?_; try trivial)
 · have u' : i < l.rungs.length:=by simpa using u
   obtain ⟨r,hr⟩:=ZF u'
   have hro:=f4 r (List.mem_of_getElem? hr)
   refine Zcw hr (go ?_)
   refine Zn (ZbO r hro.fits) (go ?_)
   refine Zf (fun v=>?_) (fun v=>?_) <;> (refine go ?_; try trivial)
   · have hfi : l.rungs.findIdx? (fun r=>!decide (it.time < r.at r.cur)) = some i:=by
      rw [List.findIdx?_eq_some_iff_getElem]
      obtain ⟨hl,hr'⟩:=List.getElem?_eq_some_iff.1 hr
      refine ⟨hl,by rw [hr'];simpa using v,fun j hj=>?_⟩
      have:=h2 l.rungs[j] (List.mem_take_iff_getElem.2 ⟨j,by omega,rfl⟩)
      simpa using this
     rw [hfi]
     refine Zcw hr (go ?_)
     refine Zn (ZmZ r it hro.fits hro.len hro.each) (go ?_)
     refine Zh (ZgT l.rungs i (ZcK r it).1 u' (by omega)) (go ?_)
     refine Qo (go ?_)
     refine cb (by rw [ZeP (fun r=>(ZcK r it).1) Rng.row hr,List.map_set]) (go ?_);try trivial
   · refine .mk [] (i + 1) ⟨by omega,?_⟩ (by omega) ?_
     · rw [List.take_add_one,hr]
       intro y hy
       rcases List.mem_append.1 hy with hy | hy
       · exact h2 y hy
       · simp at hy;subst hy;omega
     · (refine go ?_; try trivial)
 · have e : i = l.rungs.length:=by simp at u;omega
   subst e
   rw [List.take_length] at h2
   have hfi : l.rungs.findIdx? (fun r=>!decide (it.time < r.at r.cur)) = none:=List.findIdx?_eq_none_iff.2 fun x hx=>by simpa using h2 x hx
   rw [hfi]
   refine Zh (Zpz l.bottom it (by omega) (Znx hs)) ?_
   rw [show Zhh l.bottom it = ZiY l.bottom it from ZnO hs hu]
   (refine go ?_; try trivial)
   refine Qo (go ?_);try trivial
theorem Zfs (l : Lad) (f w : Int) (its : List Item) (hf : 0 ≤ f ∧ f ≤ 2305843009213693952) (hw : 1 ≤ w ∧ w ≤ 288230376151711744) (hl : its.length < 1000000) (hr : l.rungs.length < 1000000) :
 PSpec Tryz.prog 299 [l.v,V.int f,V.int w,ZI its] (Lad.v { l with rungs:=l.rungs ++ [YY f w its] }):=by
 refine pspec tab_ok mix Tryz.func299 (by kernel_rfl) rfl rfl ?_
 (refine go ?_; try trivial)
 refine Zh (Zij f w) ?_
 let R : Nat → Rng:=fun i=>(its.take i).foldl putS ⟨f,w,0,List.replicate 8 []⟩
 have hR : ∀ i,R i = (its.take i).foldl putS ⟨f,w,0,List.replicate 8 []⟩:=fun _=>rfl
 have hR0 : (⟨f,w,0,List.replicate 8 []⟩ : Rng) = R 0:=rfl
 have hRs : ∀ (i : Nat) (x : Item),its[i]? = some x → R (i + 1) = putS (R i) x:=fun i x hx=>by
  rw [hR,hR,List.take_add_one,hx,Option.toList_some,List.foldl_append];rfl
 have hRle : ∀ i,(R i).Le i ∨ (R i).Le its.length:=fun i=>by
  have:=Zgm (its.take i) _ 0 (ZeZ hf hw)
  rw [Nat.zero_add,List.length_take] at this
  rw [hR]
  rcases Nat.le_total i its.length with h | h
  · rw [Nat.min_eq_left h] at this;exact .inl this
  · rw [Nat.min_eq_right h] at this;exact .inr this
 have hRe : YY f w its = R its.length:=by rw [hR,List.take_length];rfl
 rw [hRe,hR0]
 clear_value R
 (refine go ?_; try trivial)
 refine Y3 tab_ok mix [3,4,8,9] [0,64] (fun i : Nat=>[(10,V.int i)]) (fun i=>[(320,.rows 4 [[V.int (R i).from',V.int (R i).width,V.int (R i).cur,ZfV (R i).bkts]])]) (fun i=>i ≤ its.length) (fun i=>its.length - i) [] 0 rfl (by omega) (by (refine go ?_; try trivial)) ?_
 rintro i hi
 (refine go ?_; try trivial)
 refine Zf (fun u=>?_) (fun u=>?_) <;> (refine go ?_; try trivial)
 · have u' : i < its.length:=by simpa using u
   obtain ⟨x,hx⟩:=ZF u'
   have hle : ∀ b ∈ (R i).bkts,b.length < 1000000:=by
    rcases hRle i with h | h <;> intro b hb <;> have:=h.each b hb <;> omega
   have hfl : (R i).Fits ∧ (R i).bkts.length = 8:=by
    rcases hRle i with h | h <;> exact ⟨h.fits,h.len⟩
   refine Zcw hx (go ?_)
   refine Zn (ZmZ (R i) x hfl.1 hfl.2 hle) (go ?_)
   refine .mk [] (i + 1) (by omega) (by omega) ?_
   rw [hRs i x hx]
   (refine go ?_; try trivial)
 · have e : i = its.length:=by simp at u;omega
   subst e
   refine Qo (go ?_)
   all_goals exact cb ⟨by simp,by simp [Rng.row]⟩ (by (refine go ?_; try trivial))
def Zqt (a : Int) (y : Item) : Int:=if y.time < a then y.time else a
def ZhE (a : Int) (y : Item) : Int:=if a < y.time then y.time else a
theorem ZpK : ∀ (l : List Item) (x : Item),l.foldl Zqt x.time = (Zaq x l).time
 | [],x=>rfl
 | y :: l,x=>by
  have e : Zaq x (y :: l) = Zaq (ZeQ x y) l:=rfl
  rw [e,← ZpK l (ZeQ x y),List.foldl_cons]
  congr 1
  unfold Zqt ZeQ
  split <;> split <;> omega
theorem Zlf : ∀ (l : List Item) (x : Item),l.foldl ZhE x.time = (QW x l).time
 | [],x=>rfl
 | y :: l,x=>by
  have e : QW x (y :: l) = QW (ZeR x y) l:=rfl
  rw [e,← Zlf l (ZeR x y),List.foldl_cons]
  congr 1
  unfold ZhE ZeR
  split <;> split <;> omega
theorem ZeX {α : Type} (f : α → Item → α) (a : α) {l : List Item} {i : Nat} {x : Item} (h : l[i]? = some x) : (l.take (i + 1)).foldl f a = f ((l.take i).foldl f a) x:=by
 rw [List.take_add_one,h,Option.toList_some,List.foldl_append];rfl
set_option maxHeartbeats 1000000 in
theorem ZhG (l : Lad) (x : Item) (rest : List Item) (htop : l.top = x :: rest) (ht : ZhT (x :: rest)) (hl : rest.length < 900000) (hr : l.rungs.length < 1000000) (hmv : -1152921504606846976 ≤ l.moves ∧ l.moves ≤ 1152921504606846976) :
 PSpec Tryz.prog 283 [l.v] ((Yl l x rest).v):=by
 have hmin : 0 ≤ (Zaq x rest).time ∧ (Zaq x rest).time ≤ 1152921504606846976:=by
  rcases Zb5 rest x with h | h
  · rw [h];exact ht x (by simp)
  · exact ht _ (by simp [h])
 have hmax : 0 ≤ (QW x rest).time ∧ (QW x rest).time ≤ 1152921504606846976:=by
  rcases Zb9 rest x with h | h
  · rw [h];exact ht x (by simp)
  · exact ht _ (by simp [h])
 have hmm : (Zaq x rest).time ≤ (QW x rest).time:=Int.le_trans (ZfD rest x) (Zgi rest x)
 have hlo : (x :: rest).foldl Zqt x.time = (Zaq x rest).time:=by
  rw [List.foldl_cons,← ZpK rest x];congr 1;unfold Zqt;split <;> omega
 have hhi : (x :: rest).foldl ZhE x.time = (QW x rest).time:=by
  rw [List.foldl_cons,← Zlf rest x];congr 1;unfold ZhE;split <;> omega
 obtain ⟨ts,top,rungs,bottom,moves,compares⟩:=l
 dsimp only at htop hr hmv
 subst htop
 have h0 : (x :: rest)[0]? = some x:=rfl
 have hlen : (x :: rest).length = rest.length + 1:=rfl
 generalize hL : x :: rest = L at *
 refine pspec tab_ok mix Tryz.func283 (by kernel_rfl) rfl rfl ?_
 (refine go ?_; try trivial)
 refine QI 0 x rfl h0 (go ?_)
 let lo : Nat → Int:=fun i=>(L.take i).foldl Zqt x.time
 let hi : Nat → Int:=fun i=>(L.take i).foldl ZhE x.time
 have elo : lo L.length = (Zaq x rest).time:=by show (L.take L.length).foldl Zqt x.time = _;rw [List.take_length];exact hlo
 have ehi : hi L.length = (QW x rest).time:=by show (L.take L.length).foldl ZhE x.time = _;rw [List.take_length];exact hhi
 have slo : ∀ (i : Nat) (y : Item),L[i]? = some y → lo (i + 1) = if y.time < lo i then y.time else lo i:=fun i y hy=>ZeX Zqt x.time hy
 have shi : ∀ (i : Nat) (y : Item),L[i]? = some y → hi (i + 1) = if hi i < y.time then y.time else hi i:=fun i y hy=>ZeX ZhE x.time hy
 have lo0 : x.time = lo 0:=rfl
 have hi0 : x.time = hi 0:=rfl
 clear_value lo hi
 refine Y3 tab_ok mix [1,2] [0,64] (fun i : Nat=>[(3,V.int (lo i)),(4,V.int (hi i)),(5,V.int i)]) (fun i=>[]) (fun i=>i ≤ L.length) (fun i=>L.length - i) [] 0 rfl (by omega) (by rw [← lo0,← hi0];(refine go ?_; try trivial)) ?_
 rintro i h1
 (refine go ?_; try trivial)
 refine Zf (fun g=>?_) (fun g=>?_) <;> (refine go ?_; try trivial)
 · have g' : i < L.length:=by simpa using g
   obtain ⟨y,hy⟩:=ZF g'
   refine Zcw hy (go ?_)
   refine Zcw hy (go ?_)
   refine .mk [] (i + 1) (by omega) (by omega) ?_
   rw [slo i y hy,shi i y hy]
   (refine go ?_; try trivial)
 · have e : i = L.length:=by simp at g;omega
   subst e
   rw [elo,ehi]
   rw [Yl,hL]
   have hbr : (L.length : Int) = rest.length + 1:=by rw [hlen];omega
   refine wrB (by omega) (go ?_)
   refine wrB (by dsimp only;rw [List.length_map];omega) (go ?_)
   refine Zf (fun g=>?_) (fun g=>?_) <;> (refine go ?_; try trivial)
   · rw [if_pos (by simp at g;omega)]
     refine Zh (Zdr L (by omega)) (go ?_)
     refine Qo (go ?_)
     all_goals exact cb (by simp;omega) (by (refine go ?_; try trivial))
   · rw [if_neg (by simp at g;omega)]
     refine Zn (ZkS (Zaq x rest).time (QW x rest).time ⟨hmin.1,hmm,by omega⟩) (go ?_)
     refine Znd (Zfs ⟨(QW x rest).time + 1,[],rungs,bottom,moves + L.length,compares⟩ (Zaq x rest).time (((QW x rest).time - (Zaq x rest).time + 8) / 8) L ⟨hmin.1,by omega⟩ (by omega) (by omega) hr) (go ?_)
     refine Qo (go ?_)
     all_goals exact cb (by simp;omega) (by (refine go ?_; try trivial))
set_option maxHeartbeats 1000000 in
theorem ZgI (l : Lad) (rs : List Rng) (r : Rng) (hrs : l.rungs = rs ++ [r]) (hr : r.Ok) (h8 : r.at 8 ≤ 2305843009213693952) (hl : rs.length < 900000) (hmv : -1152921504606846976 ≤ l.moves ∧ l.moves ≤ 1152921504606846976) :
 PSpec Tryz.prog 284 [l.v] ((ZO l rs r).v):=by
 obtain ⟨hn1,hn2,hn3,hn4⟩:=Zd9 r hr h8
 obtain ⟨ts,top,rungs,bottom,moves,compares⟩:=l
 dsimp only at hrs hmv
 subst hrs
 have hlen : (rs ++ [r]).length = rs.length + 1:=by simp
 have hget : (rs ++ [r])[rs.length]? = some r:=by simp
 have hset : (rs ++ [r]).set rs.length (Zv r).1 = rs ++ [(Zv r).1]:=by simp
 refine pspec tab_ok mix Tryz.func284 (by kernel_rfl) rfl rfl ?_
 (refine go ?_; try trivial)
 refine wrB (by simp;omega) (go ?_)
 refine QI rs.length r (by simp) hget (go ?_)
 refine Zh (ZoZ r hr.fits hr.len) (go ?_)
 refine ZdO (fun g=>?_) (fun g=>?_) <;> (refine go ?_; try trivial)
 rotate_left
 · rw [ZO,if_neg (by rw [g];simp)]
   refine slB 0 rs.length rfl (by simp [Zkw]) (by simp) (go ?_)
   refine Qo (go ?_)
   all_goals exact cb ⟨by simp,by simp⟩ (by (refine go ?_; try trivial))
 rw [ZO,if_pos g]
 refine Zh (?_ : PSpec _ _ _ (Zb7 (rs ++ [(Zv r).1]))) ?_
 · have:=ZgT (rs ++ [r]) rs.length (Zv r).1 (by simp) (by simp;omega)
   rw [hset] at this
   rw [show (((rs ++ [r]).map Rng.row).length : Int) - 1 = (rs.length : Int) by simp]
   exact this
 (refine go ?_; try trivial)
 refine wrB (by simp;omega) (go ?_)
 refine Zf (fun u1=>?_) (fun u1=>?_) <;> (refine go ?_; try trivial)
 · refine Zf (fun u2=>?_) (fun u2=>?_) <;> (refine go ?_; try trivial)
   · refine Zf (fun u3=>?_) (fun u3=>?_) <;> (refine go ?_; try trivial)
     · rw [if_pos ⟨by simp at u1;omega,by simp at u2;omega,by omega⟩]
       refine Zn (Zj4 (Zv r).1.width (by rw [hn4];have:=hr.fits.w;omega)) (go ?_)
       refine Znd (Zfs ⟨ts,top,rs ++ [(Zv r).1],bottom,moves + (Zv r).2.1.length,compares⟩ (Zv r).2.2.1 (((Zv r).1.width + 7) / 8) (Zv r).2.1 ⟨hn2,hn3⟩ (by rw [hn4];have:=hr.fits.w;omega) hn1 (by simp;omega)) (go ?_)
       refine Qo (go ?_);try trivial
     · refine Zh (Zdr (Zv r).2.1 (by omega)) (go ?_)
       rw [if_neg (fun h=>by omega)]
       refine Qo (go ?_);try trivial
   · refine Zh (Zdr (Zv r).2.1 (by omega)) (go ?_)
     rw [if_neg (fun h=>by simp at u2;omega)]
     refine Qo (go ?_);try trivial
 · refine Zh (Zdr (Zv r).2.1 (by omega)) (go ?_)
   rw [if_neg (fun h=>by simp at u1;omega)]
   refine Qo (go ?_);try trivial
set_option maxHeartbeats 1000000 in
theorem Zj1 (n : Nat) (l : Lad) (hn : Qq n l) : PSpec Tryz.prog 253 [l.v] ((Ql n l).v):=by
 refine pspec tab_ok mix Tryz.func253 (by kernel_rfl) rfl rfl ?_
 (refine go ?_; try exact tt)
 refine ZbA tab_ok mix [1,2] [64] (fun (l' : Lad) (n' : Nat)=>[]) (fun l' n'=>[(0,ZrL l')]) (fun l' n'=>Qq n' l' ∧ Ql n' l' = Ql n l) (fun l' n'=>n') [] l n rfl ⟨hn,rfl⟩ (by (refine go ?_; try exact tt)) ?_
 rintro l' n' ⟨h1,h2⟩
 rw [← h2]
 clear h2 hn
 cases hb : l'.bottom with
 | cons x rest=>
  have hne : l'.bottom ≠ []:=by rw [hb];simp
  rw [ZcE hne]
  (refine go ?_; try exact tt)
  refine Zf (fun g=>absurd g (by rw [hb];simp <;> omega)) (fun g=>?_)
  (refine go ?_; try exact tt)
  exact Qo (go tt)
 | nil=>
  rcases List.eq_nil_or_concat l'.rungs with hr | ⟨rs,r,hr⟩
  · cases ht : l'.top with
    | nil=>
     rw [Zat hr ht]
     (refine go ?_; try exact tt)
     refine Zf (fun _=>?_) (fun g=>absurd (by rw [hb];rfl) g)
     (refine go ?_; try exact tt)
     refine wrB (by rw [hr,ht];simp) (go ?_)
     refine Zf (fun g=>absurd g (by rw [hr,ht];simp)) (fun _=>?_)
     (refine go ?_; try exact tt)
     exact Qo (go tt)
    | cons x rest=>
     obtain ⟨m,rfl⟩ : ∃ m,n' = m + 1:=by
      cases n' with
      | zero => rcases h1 with h | ⟨_, h⟩
                · exact absurd hb h
                · rw [ht] at h;cases h
      | succ m=>exact ⟨m,rfl⟩
     have hF : l'.Fill ∧ Qq m (Qe l'):=by
      rcases h1 with h | ⟨_,h⟩ | h
      · exact absurd hb h
      · rw [ht] at h;cases h
      · exact h
     obtain ⟨hF,hE⟩:=hF
     have ef : Qe l' = Yl l' x rest:=by unfold Qe;rw [hr,ht];rfl
     have es : Ql (m + 1) l' = Ql m (Qe l'):=by rw [Ql,if_pos hb]
     have hlen:=hF.len
     have htop:=hF.top
     have hlen0:=hF.len
     have hrl:=hF.rungs
     rw [ht] at hlen htop
     simp only [List.length_cons] at hlen
     (refine go ?_; try exact tt)
     refine Zf (fun _=>?_) (fun g=>absurd (by rw [hb];rfl) g)
     (refine go ?_; try exact tt)
     refine wrB (by simp <;> omega) (go ?_)
     refine Zf (fun _=>?_) (fun g=>absurd (by rw [hr,ht];simp <;> omega) g)
     (refine go ?_; try exact tt)
     refine Zf (fun _=>?_) (fun g=>absurd (by rw [hr];rfl) g)
     (refine go ?_; try exact tt)
     refine Zh (ZhG l' x rest ht htop (by omega) (by omega) hF.moves) (go ?_)
     refine .mk [] (Yl l' x rest) m ⟨by rw [← ef];exact hE,by rw [es,ef]⟩ (by dsimp only;omega) (go ?_);try exact tt
  · rw [List.concat_eq_append] at hr
    obtain ⟨m,rfl⟩ : ∃ m,n' = m + 1:=by
     cases n' with
     | zero => rcases h1 with h | ⟨h, _⟩
               · exact absurd hb h
               · rw [hr] at h;simp at h
     | succ m=>exact ⟨m,rfl⟩
    have hF : l'.Fill ∧ Qq m (Qe l'):=by
     rcases h1 with h | ⟨h,_⟩ | h
     · exact absurd hb h
     · rw [hr] at h;simp at h
     · exact h
    obtain ⟨hF,hE⟩:=hF
    have ef : Qe l' = ZO l' rs r:=by unfold Qe;rw [hr];simp
    have es : Ql (m + 1) l' = Ql m (Qe l'):=by rw [Ql,if_pos hb]
    have hre:=hF.each r (by rw [hr];simp)
    have hrl : rs.length < 900000:=by have:=hF.rungs;rw [hr] at this;simp at this;omega
    have hlen0:=hF.len
    have hrl0:=hF.rungs
    (refine go ?_; try exact tt)
    refine Zf (fun _=>?_) (fun g=>absurd (by rw [hb];rfl) g)
    (refine go ?_; try exact tt)
    refine wrB (by simp <;> omega) (go ?_)
    refine Zf (fun _=>?_) (fun g=>absurd (by rw [hr];simp <;> omega) g)
    (refine go ?_; try exact tt)
    refine Zf (fun g=>absurd g (by rw [hr];simp <;> omega)) (fun _=>?_)
    (refine go ?_; try exact tt)
    refine Zh (ZgI l' rs r hr hre.1 hre.2 hrl hF.moves) (go ?_)
    exact .mk [] (ZO l' rs r) m ⟨by rw [← ef];exact hE,by rw [es,ef]⟩ (by dsimp only;omega) (go tt)
theorem ZiQ (n : Nat) (l : Lad) (hn : Qq n l) : PSpec Tryz.prog 208 [l.v] (.tup [(Yt n l).1.v,(Yt n l).2.1.v,V.bool (Yt n l).2.2]):=by
 refine pspec tab_ok mix Tryz.func208 (by kernel_rfl) rfl rfl ?_
 (refine go ?_; try trivial)
 refine Zh (Zj1 n l hn) ?_
 unfold Yt
 generalize Ql n l = m
 obtain ⟨ts,top,rungs,bottom,moves,compares⟩:=m
 cases bottom with
 | nil=>
  (refine go ?_; try trivial)
  refine Qo (go ?_);try trivial
 | cons x t=>
  (refine go ?_; try trivial)
  refine Qo (go ?_);try trivial
theorem Zqy (n : Nat) (l : Lad) (hn : Qq n l) (hb : (Yt n l).1.bottom.length < 1000000) : PSpec Tryz.prog 210 [l.v] (.tup [(Zmv n l).1.v,(Zmv n l).2.1.v,V.bool (Zmv n l).2.2]):=by
 have hne : (Yt n l).2.2 = true → 1 ≤ (Yt n l).1.bottom.length:=by
  unfold Yt
  split
  · next x rest h=>intro _;dsimp only;rw [h];simp
  · simp
 refine pspec tab_ok mix Tryz.func210 (by kernel_rfl) rfl rfl ?_
 (refine go ?_; try trivial)
 refine Zh (ZiQ n l hn) (go ?_)
 refine ZdO (fun g=>?_) (fun g=>?_) <;> (refine go ?_; try trivial)
 · have h1:=hne g
   refine slB 1 (Yt n l).1.bottom.length rfl (by simp [Zkw]) (by simp <;> omega) (go ?_)
   refine Qo ?_
   rw [Zmv,if_pos g]
   (refine go ?_; try trivial)
   all_goals exact cb ⟨by simp,by simp [List.take_of_length_le]⟩ (by (refine go ?_; try trivial))
 · refine Qo ?_
   rw [Zmv,if_neg (by rw [g];simp)]
   (refine go ?_; try trivial)
structure Lad.Small (l : Lad) : Prop where
 len : l.items.length < 1000000
 rungs : l.rungs.length < 1000000
 each : ∀ r ∈ l.rungs,r.bkts.length < 1000000
end Go.Proofs.YtdjnjchpgccbiaaGreat.Abs
