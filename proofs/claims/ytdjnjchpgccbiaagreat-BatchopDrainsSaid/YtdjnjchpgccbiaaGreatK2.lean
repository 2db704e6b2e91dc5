/- Small lemmas that the laws of workloads and of ladders share. -/
import Derived.Test.YtdjnjchpgccbiaaGreatK1
import Derived.Test.YtdjnjchpgccbiaaGreatL3
namespace Go.Proofs.YtdjnjchpgccbiaaGreat.Abs
open Go.Proofs
set_option maxRecDepth 10000
set_option linter.unusedSimpArgs false
set_option linter.unusedVariables false
theorem pop_asks {l : Lad} (h : l.Good) (hs : l.Sz) : Enough l.siz l ∧ (peekG l).1.bottom.length < 1000000:=by
 refine ⟨enough_of h hs,?_⟩
 have hf:=fillG_filled h hs
 have hb : (fillG l).bottom.length ≤ (fillG l).items.length:=by unfold Lad.items;simp only [List.length_append];omega
 have:=hf.perm.length_eq
 have:=hs.len
 have e : (peekG l).1 = fillG l:=by rw [peekG_eq];split <;> rfl
 rw [e];omega
theorem tmod_bounds (t b : Int) (hb : 0 < b) : -b < t.tmod b ∧ t.tmod b < b:=by
 refine ⟨?_,Int.tmod_lt_of_pos _ hb⟩
 rcases Int.le_total 0 t with h | h
 · have:=Int.tmod_nonneg b h;omega
 · have h1:=Int.tmod_lt_of_pos (-t) hb
   rw [Int.neg_tmod] at h1
   omega
instance : DecidableEq Item:=fun a b=>decidable_of_iff (a.time = b.time ∧ a.seq = b.seq ∧ a.slot = b.slot) (by cases a;cases b;simp)
theorem rowsOfG {α : Type} {f : α → List D} {p : List D → Prop} (hp : ∀ r,p r → ∃ x,r = f x) : ∀ (rows : List (List D)),(∀ r ∈ rows,p r) → ∃ l : List α,rows = l.map f
 | [],_=>⟨[],rfl⟩
 | r :: rows,h=>by
  obtain ⟨l,rfl⟩:=rowsOfG hp rows fun r hr=>h r (by simp [hr])
  obtain ⟨x,rfl⟩:=hp r (h r (by simp))
  exact ⟨x :: l,rfl⟩
theorem lstOfG {α : Type} {f : α → List D} {m sz : Nat} {t e : TypeId} (hk : (tab t).map Ty.kind = some (.slice e)) (hsz : sizeT tab e = sz) {row : List D} (hp : ∀ r,ShapeD tab m e r → ∃ x,r = f x) (h : ShapeD tab (m + 1) t row) : ∃ l : List α,row = [.lst sz (l.map f)]:=by
 unfold ShapeD at h
 rw [hk] at h
 obtain ⟨rows,rfl,_,hr⟩:=h
 obtain ⟨l,rfl⟩:=rowsOfG hp rows hr
 rw [hsz]
 exact ⟨l,rfl⟩
theorem refStartC (f w i : Int) (hf : 0 ≤ f ∧ f ≤ 2305843009213693952) (hw : 1 ≤ w ∧ w ≤ 288230376151711744) (hi : 0 ≤ i ∧ i ≤ 8) : PSpec Tryz.prog 261 [V.int f,V.int w,V.int i] (V.int (f + i * w)):=by
 have hm:=mul_small hi hw
 refine pspec tab_ok mix Tryz.func261 (by kernel_rfl) rfl rfl ?_
 (refine go ?_; try trivial)
 exact .same rfl
theorem refIndexC (f w t : Int) (hf : 0 ≤ f ∧ f ≤ t ∧ t ≤ 4611686018427387904) (hw : 1 ≤ w) : PSpec Tryz.prog 281 [V.int f,V.int w,V.int t] (V.int ((t - f) / w)):=by
 refine pspec tab_ok mix Tryz.func281 (by kernel_rfl) rfl rfl ?_
 (refine go ?_; try trivial)
 have hd : 0 ≤ (t - f) / w:=Int.ediv_nonneg (by omega) (by omega)
 have hd2 : (t - f) / w ≤ t - f:=Int.ediv_le_self _ (by omega)
 rw [Int.tdiv_eq_ediv_of_nonneg (by omega)]
 refine wrB (by omega) ?_
 (refine go ?_; try trivial)
 exact .same rfl
theorem refWidthC (a b : Int) (ha : 0 ≤ a ∧ a ≤ b ∧ b ≤ 2305843009213693952) : PSpec Tryz.prog 300 [V.int a,V.int b] (V.int ((b - a + 8) / 8)):=by
 refine pspec tab_ok mix Tryz.func300 (by kernel_rfl) rfl rfl ?_
 (refine go ?_; try trivial)
 rw [Int.tdiv_eq_ediv_of_nonneg (by omega)]
 refine wrB (by omega) ?_
 (refine go ?_; try trivial)
 exact .same (by congr 2;omega)
theorem refNarrowC (w : Int) (hw : 0 ≤ w ∧ w ≤ 4611686018427387904) : PSpec Tryz.prog 302 [V.int w] (V.int ((w + 7) / 8)):=by
 refine pspec tab_ok mix Tryz.func302 (by kernel_rfl) rfl rfl ?_
 (refine go ?_; try trivial)
 rw [Int.tdiv_eq_ediv_of_nonneg (by omega)]
 refine wrB (by omega) ?_
 (refine go ?_; try trivial)
 exact .same rfl
theorem refCurrentC (r : Rng) (hr : r.Fits) : PSpec Tryz.prog 232 [r.v] (V.int (r.at r.cur)):=by
 refine pspec tab_ok mix Tryz.func232 (by kernel_rfl) rfl rfl ?_
 (refine go ?_; try trivial)
 refine callB (refStartC r.from' r.width r.cur hr.f hr.w hr.c) ?_
 (refine go ?_; try trivial)
 exact .same rfl
theorem refEndC (r : Rng) (hr : r.Fits) : PSpec Tryz.prog 280 [r.v] (V.int (r.at 8)):=by
 refine pspec tab_ok mix Tryz.func280 (by kernel_rfl) rfl rfl ?_
 (refine go ?_; try trivial)
 refine callB (refStartC r.from' r.width 8 hr.f hr.w (by omega)) ?_
 (refine go ?_; try trivial)
 exact .same rfl
theorem refNewRungC (f w : Int) : PSpec Tryz.prog 308 [V.int f,V.int w] (Rng.v ⟨f,w,0,List.replicate 8 []⟩):=by
 refine pspec tab_ok mix Tryz.func308 (by kernel_rfl) rfl rfl ?_
 (refine go ?_; try trivial)
 refine makeB tab_ok 8 [.lst 3 []] _ rfl (.sl 3 .nil) rfl rfl (by omega) rfl ?_
 (refine go ?_; try trivial)
 refine frzK ?_
 (refine go ?_; try trivial)
 refine cb ⟨rfl,rfl⟩ ?_
 (refine go ?_; try trivial)
theorem refWithC (r : Rng) (i : Nat) (b : List Item) (hi : i < r.bkts.length) (hl : r.bkts.length < 1073741824) : LSpec Tryz.prog 282 [r.v,V.int i,itemsV b] [] 0 (Rng.v { r with bkts:=r.bkts.set i b }) [] 0:=by
 refine lspec tab_ok mix Tryz.func282 (by kernel_rfl) (by rfl) (by rfl) (by rfl) (by rfl) ?_
 (refine go ?_; try trivial)
 refine atB (by simpa using hi) ?_
 (refine go ?_; try trivial)
 refine .mk (bktRow r.bkts[i]) (by simp [hi]) ?_
 (refine go ?_; try trivial)
 refine .mk [] ?_
 (refine go ?_; try trivial)
 all_goals exact cb ⟨by simp,by rw [List.map_set];rfl⟩ (by (refine go ?_; try trivial))
theorem refWithP (r : Rng) (i : Nat) (b : List Item) (hi : i < r.bkts.length) (hl : r.bkts.length < 1073741824) : PSpec Tryz.prog 282 [r.v,V.int i,itemsV b] (Rng.v { r with bkts:=r.bkts.set i b }):=by
 refine pspec tab_ok mix Tryz.func282 (by kernel_rfl) rfl rfl ?_
 (refine go ?_; try trivial)
 refine atB (by simpa using hi) ?_
 (refine go ?_; try trivial)
 refine .mk (bktRow r.bkts[i]) (by simp [hi]) ?_
 (refine go ?_; try trivial)
 refine frzK ?_
 (refine go ?_; try trivial)
 all_goals exact cb ⟨by simp,by rw [List.map_set];rfl⟩ (by (refine go ?_; try trivial))
theorem refPutC (r : Rng) (it : Item) (hr : r.Fits) (hb : r.bkts.length = 8) (hl : ∀ b ∈ r.bkts,b.length < 1000000) : PSpec Tryz.prog 251 [r.v,it.v] (.tup [(putR r it).1.v,V.bool (putR r it).2]):=by
 refine pspec tab_ok mix Tryz.func251 (by kernel_rfl) rfl rfl ?_
 (refine go ?_; try trivial)
 refine dcallB (refCurrentC r hr) ?_
 (refine go ?_; try trivial)
 refine br_dec (fun g1=>?_) (fun g1=>?_) <;> (refine go ?_; try trivial)
 · refine frzK ?_
   rw [putR,if_pos (.inl g1)]
   (refine go ?_; try trivial)
 refine dcallB (refEndC r hr) ?_
 (refine go ?_; try trivial)
 refine br_dec (fun g2=>?_) (fun g2=>?_) <;> (refine go ?_; try trivial)
 · refine frzK ?_
   rw [putR,if_pos (.inr g2)]
   (refine go ?_; try trivial)
 have g3 : ¬ (it.time < r.at r.cur ∨ r.at 8 ≤ it.time):=by omega
 obtain ⟨q1,q2,q3,q4⟩:=put_idx hr hb g3
 refine callB (refIndexC r.from' r.width it.time ⟨hr.f.1,q1,q2⟩ hr.w.1) ?_
 rw [putR,if_neg g3]
 dsimp only
 obtain ⟨i,hi⟩ : ∃ i : Nat,(it.time - r.from') / r.width = (i : Int):=⟨_,(Int.toNat_of_nonneg q3).symm⟩
 rw [hi] at q4 ⊢
 rw [Int.toNat_natCast] at q4 ⊢
 obtain ⟨b,hbi⟩:=get_lt q4
 have hbl:=hl b (List.mem_of_getElem? hbi)
 rw [hbi,Option.getD_some]
 (refine go ?_; try trivial)
 refine idxB hbi ?_
 (refine go ?_; try trivial)
 refine callL (refWithC r i (b ++ [it]) q4 (by omega)) [] [2240] rfl ?_
 (refine go ?_; try trivial)
 refine cb ⟨by simp,by simp [Item.row]⟩ ?_
 (refine go ?_; try trivial)
 refine frzK ?_
 (refine go ?_; try trivial)
theorem refNextC (r : Rng) (hr : r.Fits) (hb : r.bkts.length = 8) : PSpec Tryz.prog 301 [r.v] (.tup [(nextR r).1.v,itemsV (nextR r).2.1,V.int (nextR r).2.2.1,V.bool (nextR r).2.2.2]):=by
 refine pspec tab_ok mix Tryz.func301 (by kernel_rfl) rfl rfl ?_
 (refine go ?_; try trivial)
 refine loopB tab_ok mix [1,2] [0,64] (fun i : Nat=>[(6,V.int i)]) (fun i=>[]) (fun i=>i ≤ r.bkts.length ∧ ∀ x ∈ r.bkts.take i,¬ 0 < x.length) (fun i=>r.bkts.length - i) [] 0 rfl ⟨by omega,by simp⟩ (by (refine go ?_; try trivial)) ?_
 rintro i ⟨h1,h2⟩
 (refine go ?_; try trivial)
 refine br_dec (fun g=>?_) (fun g=>?_) <;> (refine go ?_; try trivial)
 · simp at g
   obtain ⟨x,hx⟩:=get_lt g
   refine idxB hx ?_
   (refine go ?_; try trivial)
   refine br_dec (fun e=>?_) (fun e=>?_) <;> (refine go ?_; try trivial)
   · simp at e
     have hfi : r.bkts.findIdx? (fun b=>decide (0 < b.length)) = some i:=by
      rw [List.findIdx?_eq_some_iff_getElem]
      obtain ⟨hl',hx'⟩:=List.getElem?_eq_some_iff.1 hx
      refine ⟨hl',by rw [hx'];simpa using e,fun j hj=>?_⟩
      have:=h2 r.bkts[j] (List.mem_take_iff_getElem.2 ⟨j,by omega,rfl⟩)
      simpa using this
     have en : nextR r = (⟨r.from',r.width,i + 1,r.bkts.set i []⟩,x,r.at i,true):=by unfold nextR;rw [hfi];simp [hx]
     rw [en]
     refine idxB hx ?_
     (refine go ?_; try trivial)
     refine callC (refWithP r i [] g (by omega)) ?_
     (refine go ?_; try trivial)
     refine dcallB (refStartC r.from' r.width i hr.f hr.w (by omega)) ?_
     (refine go ?_; try trivial)
     refine frzK ?_
     (refine go ?_; try trivial)
   · simp at e
     refine .mk [] (i + 1) ⟨by omega,?_⟩ (by omega) ?_
     · rw [List.take_add_one,hx]
       intro y hy
       rcases List.mem_append.1 hy with hy | hy
       · exact h2 y hy
       · simp at hy;subst hy;simp [e]
     · (refine go ?_; try trivial)
 · have e : i = r.bkts.length:=by simp at g;omega
   subst e
   rw [List.take_length] at h2
   have hfi : r.bkts.findIdx? (fun b=>decide (0 < b.length)) = none:=List.findIdx?_eq_none_iff.2 fun x hx=>by simpa using h2 x hx
   have en : nextR r = (⟨r.from',r.width,8,r.bkts⟩,[],0,false):=by unfold nextR;rw [hfi]
   rw [en]
   refine frzK ?_
   (refine go ?_; try trivial)
theorem refCompareI (a b : Int) : PSpec Tryz.prog 288 [V.int a,V.int b] (V.int (cmpI a b)):=by
 refine pspec tab_ok mix Tryz.func288 (by kernel_rfl) rfl rfl ?_
 (refine go ?_; try trivial)
 refine br_dec (fun h=>?_) (fun h=>?_) <;> (refine go ?_; try trivial)
 · exact .same (by simp [cmpI,h])
 · refine br_dec (fun g=>?_) (fun g=>?_) <;> (refine go ?_; try trivial)
   · exact .same (by simp [cmpI,h,g])
   · exact .same (by simp [cmpI,h,g])
theorem cmpI_zero (a b : Int) : cmpI a b = 0 ↔ a = b:=by
 rcases cmpI_cases a b with h | h | h <;> simp [h.1] <;> omega
theorem refCompareItems (x y : Item) : PSpec Tryz.prog 262 [x.v,y.v] (V.int (cmpItem x y)):=by
 refine pspec tab_ok mix Tryz.func262 (by kernel_rfl) rfl rfl ?_
 (refine go ?_; try trivial)
 refine br_ndec (fun e=>?_) (fun e=>?_) <;> (refine go ?_; try trivial)
 · refine callB (refCompareI _ _) ?_
   (refine go ?_; try trivial)
   exact .same (by simp [cmpItem,or2,cmpI_zero,e])
 · refine callB (refCompareI _ _) ?_
   (refine go ?_; try trivial)
   exact .same (by simp [cmpItem,or2,cmpI_zero,e])
def placeI (l : List Item) (it : Item) : List Item:=mrg cmpEv l [it]
theorem place_at {l : List Item} {it : Item} {k : Nat} (hs : Srt cmpEv l) (hk : k ≤ l.length) (h1 : ∀ x ∈ l.drop k,0 < cmpItem x it) (h2 : ∀ x,0 < k → l[k - 1]? = some x → ¬ 0 < cmpItem x it) : placeI l it = l.take k ++ it :: l.drop k:=by
 refine mrg_last (c:=cmpEv) k (fun x hx=>?_) (fun x hx=>?_)
 · rcases Nat.eq_zero_or_pos k with h0 | h0
   · subst h0;simp at hx
   · obtain ⟨y,hy⟩:=get_lt (show k - 1 < l.length by omega)
     have h3:=h2 y h0 hy
     have h4 : le cmpEv x y:=srt_take hs leEv_refl hy x (by rw [show k - 1 + 1 = k by omega];exact hx)
     have h5 : le cmpEv y it:=by rw [cmpEvC.le_iff];show cmpItem y it ≤ 0;omega
     exact cmpEvC.le_trans h4 h5
 · have:=h1 x hx
   have h2:=cmpItem_anti x it
   show cmpItem it x < 0;omega
theorem placeC (l : List Item) (it : Item) (hl : l.length < 1000000) (hs : Srt cmpEv l) : PSpec Tryz.prog 233 [itemsV l,it.v] (itemsV (placeI l it)):=by
 refine pspec tab_ok mix Tryz.func233 (by kernel_rfl) rfl rfl ?_
 (refine go ?_; try trivial)
 refine loopB tab_ok mix [0,3] [0] (fun k : Nat=>[(5,V.int k)]) (fun k=>[]) (fun k=>k ≤ l.length ∧ ∀ x ∈ l.drop k,0 < cmpItem x it) (fun k=>k) [] l.length rfl ⟨by omega,by simp⟩ (by (refine go ?_; try trivial)) ?_
 rintro k ⟨h1,h2⟩
 have fin : (∀ x,0 < k → l[k - 1]? = some x → ¬ 0 < cmpItem x it) → placeI l it = l.take k ++ it :: l.drop k:=fun h3=>place_at hs h1 h2 h3
 (refine go ?_; try trivial)
 refine br_dec (fun g=>?_) (fun g=>?_) <;> (refine go ?_; try trivial)
 · obtain ⟨q,rfl⟩ : ∃ q,k = q + 1:=⟨k - 1,by omega⟩
   obtain ⟨x,hx⟩:=get_lt (show q < l.length by omega)
   refine idxB_eq q x (by omega) hx ?_
   (refine go ?_; try trivial)
   refine dcallB (refCompareItems x it) ?_
   (refine go ?_; try trivial)
   refine br_dec (fun e=>?_) (fun e=>?_) <;> (refine go ?_; try trivial)
   · refine .mk [] q ⟨by omega,fun y hy=>?_⟩ (by omega) ?_
     · rw [drop_get hx] at hy
       rcases List.mem_cons.1 hy with rfl | hy
       · exact e
       · exact h2 y hy
     · (refine go ?_; try trivial)
   · rw [fin fun y _ hy=>by rw [show q + 1 - 1 = q by omega,hx] at hy;cases hy;exact e]
     refine slB 0 (q + 1) rfl rfl (by simp;omega) ?_
     (refine go ?_; try trivial)
     refine slB (q + 1) l.length rfl (by simp [isHi]) (by simp;omega) ?_
     (refine go ?_; try trivial)
     refine frzK ?_
     (refine go ?_; try trivial)
     all_goals exact cb ⟨by simp;omega,by simp [Item.row,List.take_of_length_le]⟩ (by (refine go ?_; try trivial))
 · have e : k = 0:=by omega
   subst e
   rw [fin fun y h0=>absurd h0 (by omega)]
   refine slB 0 0 rfl rfl (by omega) ?_
   (refine go ?_; try trivial)
   refine slB 0 l.length rfl (by simp [isHi]) (by simp) ?_
   (refine go ?_; try trivial)
   refine frzK ?_
   (refine go ?_; try trivial)
   all_goals exact cb ⟨by simp;omega,by simp [Item.row,List.take_of_length_le]⟩ (by (refine go ?_; try trivial))
theorem refSortC (l : List Item) (hl : l.length < 1000000) : PSpec Tryz.prog 185 [itemsV l] (itemsV (ssort cmpEv l)):=by
 have hs : ∀ i,Srt cmpEv (ssort cmpEv (l.take i)):=fun i=>ssort_srt cmpEvC _
 have hln : ∀ i,(ssort cmpEv (l.take i)).length ≤ l.length:=fun i=>by rw [ssort_len cmpEvC,List.length_take];omega
 have hst : ∀ (i : Nat) (x : Item),l[i]? = some x → placeI (ssort cmpEv (l.take i)) x = ssort cmpEv (l.take (i + 1)):=fun i x hx=>by
  rw [List.take_add_one,hx,Option.toList_some,ssort_snoc];rfl
 refine pspec tab_ok mix Tryz.func185 (by kernel_rfl) rfl rfl ?_
 (refine go ?_; try trivial)
 refine loopB tab_ok mix [0] [] (fun i : Nat=>[(3,itemsV (ssort cmpEv (l.take i))),(4,V.int i)]) (fun i=>[]) (fun i=>i ≤ l.length) (fun i=>l.length - i) [] 0 rfl (by omega) (by (refine go ?_; try trivial)) ?_
 rintro i hi
 have h1:=hs i
 have h2:=hln i
 (refine go ?_; try trivial)
 refine br_dec (fun g=>?_) (fun g=>?_) <;> (refine go ?_; try trivial)
 · have g' : i < l.length:=by simpa using g
   obtain ⟨x,hx⟩:=get_lt g'
   refine idxB hx ?_
   (refine go ?_; try trivial)
   refine callB (placeC (ssort cmpEv (l.take i)) x (by omega) h1) ?_
   rw [hst i x hx]
   (refine go ?_; try trivial)
   refine .mk [] (i + 1) (by omega) (by omega) ?_
   (refine go ?_; try trivial)
 · have e : i = l.length:=by simp at g;omega
   subst e
   rw [List.take_length]
   refine frzK ?_
   (refine go ?_; try trivial)
theorem refRungsC (rs : List Rng) (i : Nat) (r : Rng) (hi : i < rs.length) (hl : rs.length < 1073741824) : PSpec Tryz.prog 252 [rngsV rs,V.int i,r.v] (rngsV (rs.set i r)):=by
 refine pspec tab_ok mix Tryz.func252 (by kernel_rfl) rfl rfl ?_
 (refine go ?_; try trivial)
 refine atB (by simpa using hi) ?_
 (refine go ?_; try trivial)
 refine .mk (Rng.row rs[i]) (by simp [hi]) ?_
 (refine go ?_; try trivial)
 refine frzK ?_
 (refine go ?_; try trivial)
 all_goals exact cb ⟨by simp,by rw [List.map_set];rfl⟩ (by (refine go ?_; try trivial))
theorem srt_of_bf {l : List Item} (h : l.Pairwise Bf) : Srt cmpEv l:=h.imp fun h=>cmpEvC.lt_le' h
set_option maxHeartbeats 1000000 in
theorem refInsertC (l : Lad) (it : Item) (hf : l.Fits) (hs : l.bottom.Pairwise Bf) (hu : ∀ x ∈ l.bottom,Uq x it) : PSpec Tryz.prog 206 [l.v,it.v] ((insLad l it).v):=by
 obtain ⟨f1,f2,f3,f4,f5,f6⟩:=hf
 refine pspec tab_ok mix Tryz.func206 (by kernel_rfl) rfl rfl ?_
 (refine go ?_; try trivial)
 refine br_dec (fun g=>?_) (fun g=>?_) <;> (refine go ?_; try trivial)
 · refine frzK ?_
   rw [insLad,if_pos g]
   (refine go ?_; try trivial)
   all_goals exact cb ⟨by simp,by simp [Item.row]⟩ (by (refine go ?_; try trivial))
 rw [insLad,if_neg g]
 refine loopB tab_ok mix [2,3,4] [64,128] (fun i : Nat=>[(6,V.int i)]) (fun i=>[(0,.rows 6 [[V.int l.topStart,itemsV l.top,rngsV l.rungs,itemsV l.bottom,V.int (l.moves + 1),V.int (l.compares + 1 + i)]])]) (fun i=>i ≤ l.rungs.length ∧ ∀ r ∈ l.rungs.take i,it.time < r.at r.cur) (fun i=>l.rungs.length - i) [] 0 rfl ⟨by omega,by simp⟩ (by (refine go ?_; try trivial)) ?_
 rintro i ⟨h1,h2⟩
 (refine go ?_; try trivial)
 refine br_dec (fun u=>?_) (fun u=>?_) <;> (refine go ?_; try trivial)
 · have u' : i < l.rungs.length:=by simpa using u
   obtain ⟨r,hr⟩:=get_lt u'
   have hro:=f4 r (List.mem_of_getElem? hr)
   refine idxB hr ?_
   (refine go ?_; try trivial)
   refine dcallB (refCurrentC r hro.fits) ?_
   (refine go ?_; try trivial)
   refine br_dec (fun v=>?_) (fun v=>?_) <;> (refine go ?_; try trivial)
   · have hfi : l.rungs.findIdx? (fun r=>!decide (it.time < r.at r.cur)) = some i:=by
      rw [List.findIdx?_eq_some_iff_getElem]
      obtain ⟨hl,hr'⟩:=List.getElem?_eq_some_iff.1 hr
      refine ⟨hl,by rw [hr'];simpa using v,fun j hj=>?_⟩
      have:=h2 l.rungs[j] (List.mem_take_iff_getElem.2 ⟨j,by omega,rfl⟩)
      simpa using this
     rw [hfi]
     refine idxB hr ?_
     (refine go ?_; try trivial)
     refine dcallB (refPutC r it hro.fits hro.len hro.each) ?_
     (refine go ?_; try trivial)
     refine callB (refRungsC l.rungs i (putR r it).1 u' (by omega)) ?_
     (refine go ?_; try trivial)
     refine frzK ?_
     (refine go ?_; try trivial)
     refine cb (by rw [modify_set (fun r=>(putR r it).1) Rng.row hr,List.map_set]) ?_
     (refine go ?_; try trivial)
   · refine .mk [] (i + 1) ⟨by omega,?_⟩ (by omega) ?_
     · rw [List.take_add_one,hr]
       intro y hy
       rcases List.mem_append.1 hy with hy | hy
       · exact h2 y hy
       · simp at hy;subst hy;omega
     · (refine go ?_; try trivial)
 · have e : i = l.rungs.length:=by simp at u;omega
   subst e
   rw [List.take_length] at h2
   have hfi : l.rungs.findIdx? (fun r=>!decide (it.time < r.at r.cur)) = none:=List.findIdx?_eq_none_iff.2 fun x hx=>by simpa using h2 x hx
   rw [hfi]
   refine callB (placeC l.bottom it (by omega) (srt_of_bf hs)) ?_
   rw [show placeI l.bottom it = insI l.bottom it from insI_mrg hs hu]
   (refine go ?_; try trivial)
   refine frzK ?_
   (refine go ?_; try trivial)
theorem refSpreadC (l : Lad) (f w : Int) (its : List Item) (hf : 0 ≤ f ∧ f ≤ 2305843009213693952) (hw : 1 ≤ w ∧ w ≤ 288230376151711744) (hl : its.length < 1000000) (hr : l.rungs.length < 1000000) :
 PSpec Tryz.prog 299 [l.v,V.int f,V.int w,itemsV its] (Lad.v { l with rungs:=l.rungs ++ [spreadR f w its] }):=by
 refine pspec tab_ok mix Tryz.func299 (by kernel_rfl) rfl rfl ?_
 (refine go ?_; try trivial)
 refine callB (refNewRungC f w) ?_
 let R : Nat → Rng:=fun i=>(its.take i).foldl putS ⟨f,w,0,List.replicate 8 []⟩
 have hR : ∀ i,R i = (its.take i).foldl putS ⟨f,w,0,List.replicate 8 []⟩:=fun _=>rfl
 have hR0 : (⟨f,w,0,List.replicate 8 []⟩ : Rng) = R 0:=rfl
 have hRs : ∀ (i : Nat) (x : Item),its[i]? = some x → R (i + 1) = putS (R i) x:=fun i x hx=>by
  rw [hR,hR,List.take_add_one,hx,Option.toList_some,List.foldl_append];rfl
 have hRle : ∀ i,(R i).Le i ∨ (R i).Le its.length:=fun i=>by
  have:=foldl_le (its.take i) _ 0 (spread0_le hf hw)
  rw [Nat.zero_add,List.length_take] at this
  rw [hR]
  rcases Nat.le_total i its.length with h | h
  · rw [Nat.min_eq_left h] at this;exact .inl this
  · rw [Nat.min_eq_right h] at this;exact .inr this
 have hRe : spreadR f w its = R its.length:=by rw [hR,List.take_length];rfl
 rw [hRe,hR0]
 clear_value R
 (refine go ?_; try trivial)
 refine loopB tab_ok mix [3,4,8,9] [0,64] (fun i : Nat=>[(10,V.int i)]) (fun i=>[(320,.rows 4 [[V.int (R i).from',V.int (R i).width,V.int (R i).cur,bktsV (R i).bkts]])]) (fun i=>i ≤ its.length) (fun i=>its.length - i) [] 0 rfl (by omega) (by (refine go ?_; try trivial)) ?_
 rintro i hi
 (refine go ?_; try trivial)
 refine br_dec (fun u=>?_) (fun u=>?_) <;> (refine go ?_; try trivial)
 · have u' : i < its.length:=by simpa using u
   obtain ⟨x,hx⟩:=get_lt u'
   have hle : ∀ b ∈ (R i).bkts,b.length < 1000000:=by
    rcases hRle i with h | h <;> intro b hb <;> have:=h.each b hb <;> omega
   have hfl : (R i).Fits ∧ (R i).bkts.length = 8:=by
    rcases hRle i with h | h <;> exact ⟨h.fits,h.len⟩
   refine idxB hx ?_
   (refine go ?_; try trivial)
   refine dcallB (refPutC (R i) x hfl.1 hfl.2 hle) ?_
   (refine go ?_; try trivial)
   refine .mk [] (i + 1) (by omega) (by omega) ?_
   rw [hRs i x hx]
   (refine go ?_; try trivial)
 · have e : i = its.length:=by simp at u;omega
   subst e
   refine frzK ?_
   (refine go ?_; try trivial)
   all_goals exact cb ⟨by simp,by simp [Rng.row]⟩ (by (refine go ?_; try trivial))
def lowT (a : Int) (y : Item) : Int:=if y.time < a then y.time else a
def highT (a : Int) (y : Item) : Int:=if a < y.time then y.time else a
theorem low_eq : ∀ (l : List Item) (x : Item),l.foldl lowT x.time = (minI x l).time
 | [],x=>rfl
 | y :: l,x=>by
  have e : minI x (y :: l) = minI (minS x y) l:=rfl
  rw [e,← low_eq l (minS x y),List.foldl_cons]
  congr 1
  unfold lowT minS
  split <;> split <;> omega
theorem high_eq : ∀ (l : List Item) (x : Item),l.foldl highT x.time = (maxI x l).time
 | [],x=>rfl
 | y :: l,x=>by
  have e : maxI x (y :: l) = maxI (maxS x y) l:=rfl
  rw [e,← high_eq l (maxS x y),List.foldl_cons]
  congr 1
  unfold highT maxS
  split <;> split <;> omega
theorem foldl_next {α : Type} (f : α → Item → α) (a : α) {l : List Item} {i : Nat} {x : Item} (h : l[i]? = some x) : (l.take (i + 1)).foldl f a = f ((l.take i).foldl f a) x:=by
 rw [List.take_add_one,h,Option.toList_some,List.foldl_append];rfl
set_option maxHeartbeats 1000000 in
theorem refFromTopC (l : Lad) (x : Item) (rest : List Item) (htop : l.top = x :: rest) (ht : Times60 (x :: rest)) (hl : rest.length < 900000) (hr : l.rungs.length < 1000000) (hmv : -1152921504606846976 ≤ l.moves ∧ l.moves ≤ 1152921504606846976) :
 PSpec Tryz.prog 283 [l.v] ((takeTopL l x rest).v):=by
 have hmin : 0 ≤ (minI x rest).time ∧ (minI x rest).time ≤ 1152921504606846976:=by
  rcases minI_mem rest x with h | h
  · rw [h];exact ht x (by simp)
  · exact ht _ (by simp [h])
 have hmax : 0 ≤ (maxI x rest).time ∧ (maxI x rest).time ≤ 1152921504606846976:=by
  rcases maxI_mem rest x with h | h
  · rw [h];exact ht x (by simp)
  · exact ht _ (by simp [h])
 have hmm : (minI x rest).time ≤ (maxI x rest).time:=Int.le_trans (minI_le rest x) (maxI_ge rest x)
 have hlo : (x :: rest).foldl lowT x.time = (minI x rest).time:=by
  rw [List.foldl_cons,← low_eq rest x];congr 1;unfold lowT;split <;> omega
 have hhi : (x :: rest).foldl highT x.time = (maxI x rest).time:=by
  rw [List.foldl_cons,← high_eq rest x];congr 1;unfold highT;split <;> omega
 obtain ⟨ts,top,rungs,bottom,moves,compares⟩:=l
 dsimp only at htop hr hmv
 subst htop
 have h0 : (x :: rest)[0]? = some x:=rfl
 have hlen : (x :: rest).length = rest.length + 1:=rfl
 generalize hL : x :: rest = L at *
 refine pspec tab_ok mix Tryz.func283 (by kernel_rfl) rfl rfl ?_
 (refine go ?_; try trivial)
 refine idxB_eq 0 x rfl h0 ?_
 (refine go ?_; try trivial)
 let lo : Nat → Int:=fun i=>(L.take i).foldl lowT x.time
 let hi : Nat → Int:=fun i=>(L.take i).foldl highT x.time
 have elo : lo L.length = (minI x rest).time:=by show (L.take L.length).foldl lowT x.time = _;rw [List.take_length];exact hlo
 have ehi : hi L.length = (maxI x rest).time:=by show (L.take L.length).foldl highT x.time = _;rw [List.take_length];exact hhi
 have slo : ∀ (i : Nat) (y : Item),L[i]? = some y → lo (i + 1) = if y.time < lo i then y.time else lo i:=fun i y hy=>foldl_next lowT x.time hy
 have shi : ∀ (i : Nat) (y : Item),L[i]? = some y → hi (i + 1) = if hi i < y.time then y.time else hi i:=fun i y hy=>foldl_next highT x.time hy
 have lo0 : x.time = lo 0:=rfl
 have hi0 : x.time = hi 0:=rfl
 clear_value lo hi
 refine loopB tab_ok mix [1,2] [0,64] (fun i : Nat=>[(3,V.int (lo i)),(4,V.int (hi i)),(5,V.int i)]) (fun i=>[]) (fun i=>i ≤ L.length) (fun i=>L.length - i) [] 0 rfl (by omega) (by rw [← lo0,← hi0];(refine go ?_; try trivial)) ?_
 rintro i h1
 (refine go ?_; try trivial)
 refine br_dec (fun g=>?_) (fun g=>?_) <;> (refine go ?_; try trivial)
 · have g' : i < L.length:=by simpa using g
   obtain ⟨y,hy⟩:=get_lt g'
   refine idxB hy ?_
   (refine go ?_; try trivial)
   refine idxB hy ?_
   (refine go ?_; try trivial)
   refine .mk [] (i + 1) (by omega) (by omega) ?_
   rw [slo i y hy,shi i y hy]
   (refine go ?_; try trivial)
 · have e : i = L.length:=by simp at g;omega
   subst e
   rw [elo,ehi]
   rw [takeTopL,hL]
   have hbr : (L.length : Int) = rest.length + 1:=by rw [hlen];omega
   refine wrB (by omega) ?_
   (refine go ?_; try trivial)
   refine wrB (by dsimp only;rw [List.length_map];omega) ?_
   (refine go ?_; try trivial)
   refine br_dec (fun g=>?_) (fun g=>?_) <;> (refine go ?_; try trivial)
   · rw [if_pos (by simp at g;omega)]
     refine callB (refSortC L (by omega)) ?_
     (refine go ?_; try trivial)
     refine frzK ?_
     (refine go ?_; try trivial)
     all_goals exact cb (by simp;omega) (by (refine go ?_; try trivial))
   · rw [if_neg (by simp at g;omega)]
     refine dcallB (refWidthC (minI x rest).time (maxI x rest).time ⟨hmin.1,hmm,by omega⟩) ?_
     (refine go ?_; try trivial)
     refine dcallC (refSpreadC ⟨(maxI x rest).time + 1,[],rungs,bottom,moves + L.length,compares⟩ (minI x rest).time (((maxI x rest).time - (minI x rest).time + 8) / 8) L ⟨hmin.1,by omega⟩ (by omega) (by omega) hr) ?_
     (refine go ?_; try trivial)
     refine frzK ?_
     (refine go ?_; try trivial)
     all_goals exact cb (by simp;omega) (by (refine go ?_; try trivial))
set_option maxHeartbeats 1000000 in
theorem refFromRungC (l : Lad) (rs : List Rng) (r : Rng) (hrs : l.rungs = rs ++ [r]) (hr : r.Ok) (h8 : r.at 8 ≤ 2305843009213693952) (hl : rs.length < 900000) (hmv : -1152921504606846976 ≤ l.moves ∧ l.moves ≤ 1152921504606846976) :
 PSpec Tryz.prog 284 [l.v] ((takeRungL l rs r).v):=by
 obtain ⟨hn1,hn2,hn3,hn4⟩:=nextR_facts r hr h8
 obtain ⟨ts,top,rungs,bottom,moves,compares⟩:=l
 dsimp only at hrs hmv
 subst hrs
 have hlen : (rs ++ [r]).length = rs.length + 1:=by simp
 have hget : (rs ++ [r])[rs.length]? = some r:=by simp
 have hset : (rs ++ [r]).set rs.length (nextR r).1 = rs ++ [(nextR r).1]:=by simp
 refine pspec tab_ok mix Tryz.func284 (by kernel_rfl) rfl rfl ?_
 (refine go ?_; try trivial)
 refine wrB (by simp;omega) ?_
 (refine go ?_; try trivial)
 refine idxB_eq rs.length r (by simp) hget ?_
 (refine go ?_; try trivial)
 refine callB (refNextC r hr.fits hr.len) ?_
 (refine go ?_; try trivial)
 refine brK_mk (fun g=>?_) (fun g=>?_) <;> (refine go ?_; try trivial)
 rotate_left
 · rw [takeRungL,if_neg (by rw [g];simp)]
   refine slB 0 rs.length rfl (by simp [isHi]) (by simp) ?_
   (refine go ?_; try trivial)
   refine frzK ?_
   (refine go ?_; try trivial)
   all_goals exact cb ⟨by simp,by simp⟩ (by (refine go ?_; try trivial))
 rw [takeRungL,if_pos g]
 refine callB (?_ : PSpec _ _ _ (rngsV (rs ++ [(nextR r).1]))) ?_
 · have:=refRungsC (rs ++ [r]) rs.length (nextR r).1 (by simp) (by simp;omega)
   rw [hset] at this
   rw [show (((rs ++ [r]).map Rng.row).length : Int) - 1 = (rs.length : Int) by simp]
   exact this
 (refine go ?_; try trivial)
 refine wrB (by simp;omega) ?_
 (refine go ?_; try trivial)
 refine br_dec (fun u1=>?_) (fun u1=>?_) <;> (refine go ?_; try trivial)
 · refine br_dec (fun u2=>?_) (fun u2=>?_) <;> (refine go ?_; try trivial)
   · refine br_dec (fun u3=>?_) (fun u3=>?_) <;> (refine go ?_; try trivial)
     · rw [if_pos ⟨by simp at u1;omega,by simp at u2;omega,by omega⟩]
       refine dcallB (refNarrowC (nextR r).1.width (by rw [hn4];have:=hr.fits.w;omega)) ?_
       (refine go ?_; try trivial)
       refine dcallC (refSpreadC ⟨ts,top,rs ++ [(nextR r).1],bottom,moves + (nextR r).2.1.length,compares⟩ (nextR r).2.2.1 (((nextR r).1.width + 7) / 8) (nextR r).2.1 ⟨hn2,hn3⟩ (by rw [hn4];have:=hr.fits.w;omega) hn1 (by simp;omega)) ?_
       (refine go ?_; try trivial)
       refine frzK ?_
       (refine go ?_; try trivial)
     · refine callB (refSortC (nextR r).2.1 (by omega)) ?_
       (refine go ?_; try trivial)
       rw [if_neg (fun h=>by omega)]
       refine frzK ?_
       (refine go ?_; try trivial)
   · refine callB (refSortC (nextR r).2.1 (by omega)) ?_
     (refine go ?_; try trivial)
     rw [if_neg (fun h=>by simp at u2;omega)]
     refine frzK ?_
     (refine go ?_; try trivial)
 · refine callB (refSortC (nextR r).2.1 (by omega)) ?_
   (refine go ?_; try trivial)
   rw [if_neg (fun h=>by simp at u1;omega)]
   refine frzK ?_
   (refine go ?_; try trivial)
set_option maxHeartbeats 1000000 in
theorem refRefillC (n : Nat) (l : Lad) (hn : Enough n l) : PSpec Tryz.prog 253 [l.v] ((fillN n l).v):=by
 refine pspec tab_ok mix Tryz.func253 (by kernel_rfl) rfl rfl ?_
 (refine go ?_; try exact True.intro)
 refine loopB2 tab_ok mix [1,2] [64] (fun (l' : Lad) (n' : Nat)=>[]) (fun l' n'=>[(0,ladB l')]) (fun l' n'=>Enough n' l' ∧ fillN n' l' = fillN n l) (fun l' n'=>n') [] l n rfl ⟨hn,rfl⟩ (by (refine go ?_; try exact True.intro)) ?_
 rintro l' n' ⟨h1,h2⟩
 rw [← h2]
 clear h2 hn
 cases hb : l'.bottom with
 | cons x rest=>
  have hne : l'.bottom ≠ []:=by rw [hb];simp
  rw [fillN_full hne]
  (refine go ?_; try exact True.intro)
  refine br_dec (fun g=>absurd g (by rw [hb];simp <;> omega)) (fun g=>?_)
  (refine go ?_; try exact True.intro)
  refine frzK (go ?_);try exact True.intro
 | nil=>
  rcases List.eq_nil_or_concat l'.rungs with hr | ⟨rs,r,hr⟩
  · cases ht : l'.top with
    | nil=>
     rw [fillN_empty hr ht]
     (refine go ?_; try exact True.intro)
     refine br_dec (fun _=>?_) (fun g=>absurd (by rw [hb];rfl) g)
     (refine go ?_; try exact True.intro)
     refine wrB (by rw [hr,ht];simp) (go ?_)
     refine br_dec (fun g=>absurd g (by rw [hr,ht];simp)) (fun _=>?_)
     (refine go ?_; try exact True.intro)
     refine frzK (go ?_);try exact True.intro
    | cons x rest=>
     obtain ⟨m,rfl⟩ : ∃ m,n' = m + 1:=by
      cases n' with
      | zero => rcases h1 with h | ⟨_, h⟩
                · exact absurd hb h
                · rw [ht] at h;cases h
      | succ m=>exact ⟨m,rfl⟩
     have hF : l'.Fill ∧ Enough m (fillL l'):=by
      rcases h1 with h | ⟨_,h⟩ | h
      · exact absurd hb h
      · rw [ht] at h;cases h
      · exact h
     obtain ⟨hF,hE⟩:=hF
     have ef : fillL l' = takeTopL l' x rest:=by unfold fillL;rw [hr,ht];rfl
     have es : fillN (m + 1) l' = fillN m (fillL l'):=by rw [fillN,if_pos hb]
     have hlen:=hF.len
     have htop:=hF.top
     have hlen0:=hF.len
     have hrl:=hF.rungs
     rw [ht] at hlen htop
     simp only [List.length_cons] at hlen
     (refine go ?_; try exact True.intro)
     refine br_dec (fun _=>?_) (fun g=>absurd (by rw [hb];rfl) g)
     (refine go ?_; try exact True.intro)
     refine wrB (by simp <;> omega) (go ?_)
     refine br_dec (fun _=>?_) (fun g=>absurd (by rw [hr,ht];simp <;> omega) g)
     (refine go ?_; try exact True.intro)
     refine br_dec (fun _=>?_) (fun g=>absurd (by rw [hr];rfl) g)
     (refine go ?_; try exact True.intro)
     refine callB (refFromTopC l' x rest ht htop (by omega) (by omega) hF.moves) (go ?_)
     refine .mk [] (takeTopL l' x rest) m ⟨by rw [← ef];exact hE,by rw [es,ef]⟩ (by dsimp only;omega) (go ?_);try exact True.intro
  · rw [List.concat_eq_append] at hr
    obtain ⟨m,rfl⟩ : ∃ m,n' = m + 1:=by
     cases n' with
     | zero => rcases h1 with h | ⟨h, _⟩
               · exact absurd hb h
               · rw [hr] at h;simp at h
     | succ m=>exact ⟨m,rfl⟩
    have hF : l'.Fill ∧ Enough m (fillL l'):=by
     rcases h1 with h | ⟨h,_⟩ | h
     · exact absurd hb h
     · rw [hr] at h;simp at h
     · exact h
    obtain ⟨hF,hE⟩:=hF
    have ef : fillL l' = takeRungL l' rs r:=by unfold fillL;rw [hr];simp
    have es : fillN (m + 1) l' = fillN m (fillL l'):=by rw [fillN,if_pos hb]
    have hre:=hF.each r (by rw [hr];simp)
    have hrl : rs.length < 900000:=by have:=hF.rungs;rw [hr] at this;simp at this;omega
    have hlen0:=hF.len
    have hrl0:=hF.rungs
    (refine go ?_; try exact True.intro)
    refine br_dec (fun _=>?_) (fun g=>absurd (by rw [hb];rfl) g)
    (refine go ?_; try exact True.intro)
    refine wrB (by simp <;> omega) (go ?_)
    refine br_dec (fun _=>?_) (fun g=>absurd (by rw [hr];simp <;> omega) g)
    (refine go ?_; try exact True.intro)
    refine br_dec (fun g=>absurd g (by rw [hr];simp <;> omega)) (fun _=>?_)
    (refine go ?_; try exact True.intro)
    refine callB (refFromRungC l' rs r hr hre.1 hre.2 hrl hF.moves) (go ?_)
    refine .mk [] (takeRungL l' rs r) m ⟨by rw [← ef];exact hE,by rw [es,ef]⟩ (by dsimp only;omega) (go ?_);try exact True.intro
theorem refPeekC (n : Nat) (l : Lad) (hn : Enough n l) : PSpec Tryz.prog 208 [l.v] (.tup [(peekL n l).1.v,(peekL n l).2.1.v,V.bool (peekL n l).2.2]):=by
 refine pspec tab_ok mix Tryz.func208 (by kernel_rfl) rfl rfl ?_
 (refine go ?_; try trivial)
 refine callB (refRefillC n l hn) ?_
 unfold peekL
 generalize fillN n l = m
 obtain ⟨ts,top,rungs,bottom,moves,compares⟩:=m
 cases bottom with
 | nil=>
  (refine go ?_; try trivial)
  refine frzK ?_
  (refine go ?_; try trivial)
 | cons x t=>
  (refine go ?_; try trivial)
  refine frzK ?_
  (refine go ?_; try trivial)
theorem refPopC (n : Nat) (l : Lad) (hn : Enough n l) (hb : (peekL n l).1.bottom.length < 1000000) : PSpec Tryz.prog 210 [l.v] (.tup [(popL n l).1.v,(popL n l).2.1.v,V.bool (popL n l).2.2]):=by
 have hne : (peekL n l).2.2 = true → 1 ≤ (peekL n l).1.bottom.length:=by
  unfold peekL
  split
  · next x rest h=>intro _;dsimp only;rw [h];simp
  · simp
 refine pspec tab_ok mix Tryz.func210 (by kernel_rfl) rfl rfl ?_
 (refine go ?_; try trivial)
 refine callB (refPeekC n l hn) ?_
 (refine go ?_; try trivial)
 refine brK_mk (fun g=>?_) (fun g=>?_) <;> (refine go ?_; try trivial)
 · have h1:=hne g
   refine slB 1 (peekL n l).1.bottom.length rfl (by simp [isHi]) (by simp <;> omega) ?_
   (refine go ?_; try trivial)
   refine frzK ?_
   rw [popL,if_pos g]
   (refine go ?_; try trivial)
   all_goals exact cb ⟨by simp,by simp [List.take_of_length_le]⟩ (by (refine go ?_; try trivial))
 · refine frzK ?_
   rw [popL,if_neg (by rw [g];simp)]
   (refine go ?_; try trivial)
theorem growC0 : PSpec Tryz.prog 154 [.c (.slice none 0 0),V.int 0] (.c (.slice none 0 0)):=by
 refine pspec tab_ok mix Tryz.func154 (by kernel_rfl) rfl rfl ?_
 (refine go ?_; try trivial)
 refine capNil tab_ok _ rfl rfl ?_
 (refine go ?_; try trivial)
 exact .same rfl
def itemZ : List D:=[.c (.int .i64 0),.c (.int .i64 0),.c (.int .i64 0)]
theorem growC (n : Nat) (h0 : 0 < n) (hn : n < 1000000) : LSpec Tryz.prog 154 [.c (.slice none 0 0),V.int n] [] 0 (.sl 0 3 0 0) [(0,.dat 3 (List.replicate n itemZ))] 1:=by
 refine lspec tab_ok mix Tryz.func154 (by kernel_rfl) (by rfl) (by rfl) (by rfl) (by rfl) ?_
 (refine go ?_; try trivial)
 refine capNil tab_ok _ rfl rfl ?_
 (refine go ?_; try trivial)
 refine br_dec (fun _=>?_) (fun g=>absurd (by omega) g)
 (refine go ?_; try trivial)
 refine capNil tab_ok _ rfl rfl ?_
 (refine go ?_; try trivial)
 refine slB 0 0 rfl rfl (by omega) ?_
 (refine go ?_; try trivial)
 refine appendN tab_ok _ _ itemZ rfl (.c _ rfl (.c _ rfl (.c _ rfl .nil))) rfl rfl n rfl (kq:=.i64) (congrArg (fun z : Int=>V.c (.int .i64 z)) (by omega)) ⟨h0,by omega⟩ rfl rfl ?_
 (refine go ?_; try trivial)
 refine slB 0 0 rfl rfl (by omega) ?_
 (refine go ?_; try trivial)
 refine .mk [(0,1216)] ?_
 (refine go ?_; try trivial)
theorem flat_next {bs : List (List Item)} {i : Nat} {x : List Item} (hx : bs[i]? = some x) : (bs.take (i + 1)).flatten = (bs.take i).flatten ++ x:=by
 rw [List.take_add_one,hx,Option.toList_some,List.flatten_append];simp
theorem flat_le (bs : List (List Item)) (i : Nat) : (bs.take i).flatten.length ≤ bs.flatten.length:=by
 have e : bs.flatten = (bs.take i).flatten ++ (bs.drop i).flatten:=by rw [← List.flatten_append,List.take_append_drop]
 rw [e,List.length_append];omega
set_option maxHeartbeats 1000000 in
theorem concatC (bs : List (List Item)) (hb : bs.length < 1000000) (hl : bs.flatten.length < 1000000) : LSpec Tryz.prog 82 [bktsV bs] [] 0 (.ac 0 3 bs.flatten.length) [(0,.dat 3 (bs.flatten.map Item.row))] 1:=by
 have hs : ∀ (i : Nat) (x : List Item),bs[i]? = some x → (bs.take (i + 1)).flatten = (bs.take i).flatten ++ x:=fun i x hx=>flat_next hx
 have hle:=flat_le bs
 have he : bs.flatten = (bs.take bs.length).flatten:=by rw [List.take_length]
 have h0 : (bs.take 0).flatten = []:=rfl
 let acc : Nat → List Item:=fun i=>(bs.take i).flatten
 have hacc : ∀ i,(bs.take i).flatten = acc i:=fun _=>rfl
 simp only [hacc] at hs he hle h0
 rw [he] at hle hl ⊢
 clear_value acc
 refine lspec tab_ok mix Tryz.func82 (by kernel_rfl) (by rfl) (by rfl) (by rfl) (by rfl) ?_
 (refine go ?_; try trivial)
 refine loopB tab_ok mix [0,9,10] [] (fun i : Nat=>[(3,V.int (acc i).length),(11,V.int i)]) (fun i=>[]) (fun i=>i ≤ bs.length) (fun i=>bs.length - i) [] 0 rfl (by omega) (by rw [h0];(refine go ?_; try trivial)) ?_
 rintro i hi
 have hli:=hle i
 (refine go ?_; try trivial)
 refine br_dec (fun g=>?_) (fun g=>?_) <;> (refine go ?_; try trivial)
 · have g' : i < bs.length:=by simpa using g
   obtain ⟨x,hx⟩:=get_lt g'
   have hsx:=hs i x hx
   have hl2 : (acc (i + 1)).length = (acc i).length + x.length:=by rw [hsx,List.length_append]
   have hl3:=hle (i + 1)
   refine idxB hx ?_
   (refine go ?_; try trivial)
   refine wrB (by simp;omega) ?_
   (refine go ?_; try trivial)
   refine .mk [] (i + 1) (by omega) (by omega) ?_
   rw [hl2]
   (refine go ?_; try trivial)
   all_goals exact cb (by simp) (by (refine go ?_; try trivial))
 have ei : i = bs.length:=by simp at g;omega
 subst ei
 by_cases hz : acc bs.length = []
 · have e0 : ((acc bs.length).length : Int) = 0:=by rw [hz];rfl
   rw [e0]
   have hall : ∀ (i : Nat) (x : List Item),bs[i]? = some x → x = []:=fun i x hx=>by
    have h1:=hle (i + 1)
    rw [hz,hs i x hx,List.length_append] at h1
    simp at h1
    exact h1.2
   refine callB growC0 ?_
   (refine go ?_; try trivial)
   refine loopB tab_ok mix [25,26] [] (fun i : Nat=>[(6,.ac 1 3 0),(27,V.int i)]) (fun i=>[(1,.dat 3 [])]) (fun i=>i ≤ bs.length) (fun i=>bs.length - i) [] 0 rfl (by omega) (by (refine go ?_; try trivial)) ?_
   rintro i hi
   (refine go ?_; try trivial)
   refine br_dec (fun g=>?_) (fun g=>?_) <;> (refine go ?_; try trivial)
   · have g' : i < bs.length:=by simpa using g
     obtain ⟨x,hx⟩:=get_lt g'
     cases hall i x hx
     refine idxB hx ?_
     (refine go ?_; try trivial)
     refine .mk [(1,1216)] (i + 1) (by omega) (by omega) ?_
     (refine go ?_; try trivial)
   · rw [hz]
     refine .mk [(0,1)] ?_
     (refine go ?_; try trivial)
 · have hpos : 0 < (acc bs.length).length:=by
    cases hc : acc bs.length with
    | nil=>exact absurd hc hz
    | cons a t=>simp
   refine callL (growC _ hpos hl) [] [] rfl ?_
   (refine go ?_; try trivial)
   refine LoopB.room 6 rfl (Nat.le_of_ble_eq_true rfl) fun cap hcap=>?_
   refine loopB tab_ok mix [25,26] [] (fun s : Nat ⊕ Nat=>match s with
    | .inl i=>[(6,.sx 1 3 0 0 cap),(27,V.int i)]
    | .inr i=>[(6,.sl 1 3 0 (acc i).length),(27,V.int i)]) (fun s=>match s with
    | .inl i=>[(1,.dat 3 (List.replicate (acc bs.length).length itemZ))]
    | .inr i=>[(1,.dat 3 ((acc i).map Item.row))]) (fun s=>match s with
    | .inl i=>i ≤ bs.length ∧ acc i = []
    | .inr i=>i ≤ bs.length ∧ acc i ≠ []) (fun s=>match s with
    | .inl i=>bs.length - i
    | .inr i=>bs.length - i) [(1,512)] (.inl 0) rfl ⟨by omega,h0⟩ (by (refine go ?_; try trivial)) ?_
   rintro (i | i) ⟨hi,hacci⟩
   · (refine go ?_; try trivial)
     refine br_dec (fun g=>?_) (fun g=>?_) <;> (refine go ?_; try trivial)
     · have g' : i < bs.length:=by simpa using g
       obtain ⟨x,hx⟩:=get_lt g'
       refine idxB hx ?_
       (refine go ?_; try trivial)
       have hsx:=hs i x hx
       rw [hacci,List.nil_append] at hsx
       cases x with
       | nil=>
        refine appendE tab_ok _ _ rfl rfl rfl rfl ?_
        (refine go ?_; try trivial)
        refine .mk [] (.inl (i + 1)) ⟨by omega,hsx⟩ (by dsimp only;omega) ?_
        (refine go ?_; try trivial)
       | cons a t=>
        refine asSl tab_ok ?_
        (refine go ?_; try trivial)
        refine cb ⟨by intro e;rw [List.replicate_eq_nil_iff] at e;omega,by simp,by have:=hle (i + 1);rw [hsx] at this;simp at this ⊢;omega⟩ ?_
        (refine go ?_; try trivial)
        refine .mk [(1,1216)] (.inr (i + 1)) ⟨by omega,by rw [hsx];simp⟩ (by dsimp only;omega) ?_
        (refine go ?_; try trivial)
        refine cb (by rw [hsx];simp) ?_
        (refine go ?_; try trivial)
        exact cb (by rw [hsx];simp [List.take_of_length_le]) (by (refine go ?_; try trivial))
     · have ei : i = bs.length:=by simp at g;omega
       subst ei
       exact absurd hacci hz
   · have hli2:=hle i
     have hne : (acc i).map Item.row ≠ []:=by intro e;exact hacci (List.map_eq_nil_iff.1 e)
     (refine go ?_; try trivial)
     refine br_dec (fun g=>?_) (fun g=>?_) <;> (refine go ?_; try trivial)
     · have g' : i < bs.length:=by simpa using g
       obtain ⟨x,hx⟩:=get_lt g'
       refine idxB hx ?_
       (refine go ?_; try trivial)
       have hsx:=hs i x hx
       have hl3:=hle (i + 1)
       rw [hsx,List.length_append] at hl3
       refine cb ⟨hne,by simp,by simp;omega⟩ ?_
       (refine go ?_; try trivial)
       refine .mk [(1,1216)] (.inr (i + 1)) ⟨by omega,by rw [hsx];simp [hacci]⟩ (by dsimp only;omega) ?_
       (refine go ?_; try trivial)
       refine cb (by rw [hsx];simp) ?_
       (refine go ?_; try trivial)
       exact cb (by rw [hsx];simp [List.take_of_length_le]) (by (refine go ?_; try trivial))
     · have ei : i = bs.length:=by simp at g;omega
       subst ei
       refine .mk [(0,1)] ?_
       (refine go ?_; try trivial)
structure Lad.Small (l : Lad) : Prop where
 len : l.items.length < 1000000
 rungs : l.rungs.length < 1000000
 each : ∀ r ∈ l.rungs,r.bkts.length < 1000000
def accL (l : Lad) (i : Nat) : List Item:=l.top ++ (l.bottom ++ ((l.rungs.take i).map Rng.items).flatten)
theorem accL_next {l : Lad} {i : Nat} {r : Rng} (hr : l.rungs[i]? = some r) : accL l (i + 1) = accL l i ++ r.items:=by
 unfold accL
 rw [List.take_add_one,hr,Option.toList_some,List.map_append,List.flatten_append]
 simp
theorem accL_len (l : Lad) (i : Nat) : (accL l i).length ≤ l.items.length:=by
 have e : l.rungs = l.rungs.take i ++ l.rungs.drop i:=(List.take_append_drop _ _).symm
 have e2 : l.rest = ((l.rungs.take i).map Rng.items).flatten ++ ((l.rungs.drop i).map Rng.items).flatten:=by
  unfold Lad.rest
  conv=>lhs;rw [e]
  rw [List.map_append,List.flatten_append]
 unfold accL Lad.items
 rw [e2]
 simp only [List.length_append];omega
theorem accL_end (l : Lad) : accL l l.rungs.length = l.items:=by unfold accL;rw [List.take_length];rfl
theorem small_rung {l : Lad} (h : l.Small) {r : Rng} (hr : r ∈ l.rungs) : r.items.length < 1000000:=by
 have:=rung_items_le hr
 have:=h.len
 omega
end Go.Proofs.YtdjnjchpgccbiaaGreat.Abs
