/- Ladders and sorted lists, with free numbers: what Peek, Pop and Insert do. -/
import Derived.Test.YtdjnjchpgccbiaaGreatHA
namespace Go.Proofs.YtdjnjchpgccbiaaGreat.Abs
open Go.Proofs
set_option maxRecDepth 10000
set_option linter.unusedSimpArgs false
set_option linter.unusedVariables false
theorem Zcb {S : List Item} {it x : Item} : x ∈ ZiY S it ↔ x = it ∨ x ∈ S:=by
 rw [(ZaQ S it).mem_iff];simp
structure InvL (l : Lad) (S : List Item) (b : Int) (n : Nat) : Prop where
 rel : Rel l S
 seqs : ∀ x ∈ S,0 ≤ x.seq ∧ x.seq < b
 len : S.length ≤ n
 cost : l.moves + l.pot ≤ 6 * (n : Int)
 mlow : (n : Int) ≤ l.moves
 comp : (n : Int) ≤ l.compares ∧ l.compares ≤ 5 * (n : Int)
theorem InvL.sz {l : Lad} {S : List Item} {b : Int} {n : Nat} (h : InvL l S b n) (hn : n ≤ 100000) : l.Sz:=by
 have h1:=h.rel.perm.length_eq
 have h2:=h.len
 have h3:=h.cost
 have h4:=h.comp
 exact ⟨by omega,by omega,by omega⟩
theorem InvL.uq {l : Lad} {S : List Item} {b : Int} {n : Nat} (h : InvL l S b n) {it : Item} (hs : ∀ x ∈ S,x.seq ≠ it.seq) : ∀ x ∈ S,Uq x it:=fun x hx=>by
 have:=hs x hx
 unfold Uq
 rw [Ne,Zda]
 omega
theorem ZoU : Rel ⟨0,[],[],[],0,0⟩ []:=⟨⟨⟨by decide,by decide⟩,fun x hx=>by simp at hx,trivial,by decide,fun x hx=>by simp at hx,.nil,.nil,⟨by decide,by decide⟩⟩,.nil,.nil⟩
theorem Znu : InvL ⟨0,[],[],[],0,0⟩ [] 0 0:=⟨ZoU,fun x hx=>by simp at hx,by decide,by decide,by decide,by decide,by decide⟩
theorem InvL.mono {l : Lad} {S : List Item} {b c : Int} {n : Nat} (h : InvL l S b n) (hc : b ≤ c) : InvL l S c n:=⟨h.rel,fun x hx=>by have:=h.seqs x hx;omega,h.len,h.cost,h.mlow,h.comp⟩
theorem InvL.ins {l : Lad} {S : List Item} {b : Int} {n : Nat} (h : InvL l S b n) {it : Item} (ht : 0 ≤ it.time ∧ it.time ≤ 1152921504606846976) (h0 : 0 ≤ it.seq ∧ it.seq < b) (hs : ∀ x ∈ S,x.seq ≠ it.seq) : InvL (Z6 l it) (ZiY S it) b (n + 1):=by
 obtain ⟨r1,r2,_⟩:=ZmK h.rel ht (h.uq hs)
 have m1:=r2.moves
 have m2:=r2.pot
 have m3:=r2.comp
 have hcost:=h.cost
 have hcomp:=h.comp
 have hmlow:=h.mlow
 have hlen:=h.len
 refine ⟨r1,fun x hx=>?_,by have:=(ZaQ S it).length_eq;rw [List.length_cons] at this;omega,by push_cast;omega,by push_cast;omega,by push_cast;omega⟩
 rcases Zcb.1 hx with rfl | hx
 · exact h0
 · exact h.seqs x hx
theorem InvL.pop {l : Lad} {S : List Item} {b : Int} {n : Nat} (h : InvL l S b n) (hn : n ≤ 100000) : (S = [] ∧ ZaH l = (ZH l,⟨0,0,0⟩,false) ∧ InvL (ZaH l).1 [] b n) ∨ ∃ x T,S = x :: T ∧ ZaH l = ((ZaH l).1,x,true) ∧ InvL (ZaH l).1 T b n:=by
 have hs:=h.sz hn
 have hcost:=h.cost
 have hcomp:=h.comp
 have hmlow:=h.mlow
 have hlen:=h.len
 obtain ⟨c1,c2,c3,c4⟩:=ZmD h.rel.good hs
 rcases Zmm h.rel hs with ⟨rfl,e1,_,e3⟩ | ⟨x,T,rfl,e1,_,_,e3⟩
 · exact .inl ⟨rfl,e1,e3,fun x hx=>by simp at hx,by simp,by omega,by omega,by omega⟩
 · refine .inr ⟨x,T,rfl,?_,e3,fun y hy=>h.seqs y (List.mem_cons_of_mem _ hy),by rw [List.length_cons] at hlen;omega,by omega,by omega,by omega⟩
   rw [e1]
theorem InvL.asks {l : Lad} {S : List Item} {b : Int} {n : Nat} (h : InvL l S b n) (hn : n ≤ 100000) : Qq l.siz l ∧ (Yf l).1.bottom.length < 1000000:=Zop h.rel.good (h.sz hn)
theorem InvL.insC {l : Lad} {S : List Item} {b : Int} {n : Nat} (h : InvL l S b n) (hn : n ≤ 100000) {it : Item} (ht : 0 ≤ it.time ∧ it.time ≤ 1152921504606846976) (hs : ∀ x ∈ S,x.seq ≠ it.seq) : PSpec Tryz.prog 200 [l.v,it.v] ((Z6 l it).v):=
 Zkh l it (ZmC h.rel.good (h.sz hn)) (ZmK h.rel ht (h.uq hs)).2.2
theorem InvL.popC {l : Lad} {S : List Item} {b : Int} {n : Nat} (h : InvL l S b n) (hn : n ≤ 100000) : PSpec Tryz.prog 203 [l.v] (.tup [(ZaH l).1.v,(ZaH l).2.1.v,V.bool (ZaH l).2.2]):=
 Abs.popC l.siz l (h.asks hn).1 (h.asks hn).2
theorem InvL.peekC {l : Lad} {S : List Item} {b : Int} {n : Nat} (h : InvL l S b n) (hn : n ≤ 100000) : PSpec Tryz.prog 202 [l.v] (.tup [(Yf l).1.v,(Yf l).2.1.v,V.bool (Yf l).2.2]):=Abs.peekC l.siz l (h.asks hn).1
theorem InvL.small {l : Lad} {S : List Item} {b : Int} {n : Nat} (h : InvL l S b n) (hn : n ≤ 100000) : l.Small:=by
 have h1:=h.rel.perm.length_eq
 have h2:=h.len
 have h3:=h.rel.good.depth
 refine ⟨by omega,by omega,fun r hr=>?_⟩
 obtain ⟨b',k',g1,_⟩:=Zcd h.rel.good.chain r hr
 have:=g1.len;omega
theorem InvL.peek {l : Lad} {S : List Item} {b : Int} {n : Nat} (h : InvL l S b n) (hn : n ≤ 100000) : (Yf l).1 = ZH l ∧ InvL (ZH l) S b n ∧ (Yf l).2 = (ZaH l).2:=by
 have hs:=h.sz hn
 have hf:=Yj h.rel.good hs
 have h1:=hf.cost
 have h2:=hf.more
 have h3:=hf.same
 have h4:=h.cost
 have h5:=h.mlow
 have h6:=h.comp
 have hr:=ZiX h.rel hs
 have hi : InvL (ZH l) S b n:=⟨hr,h.seqs,h.len,by omega,by omega,by omega⟩
 rcases Zmm h.rel hs with ⟨_,e1,e2,_⟩ | ⟨x,T,_,e1,e2,_,_⟩
 · exact ⟨by rw [e2],hi,by rw [e1,e2]⟩
 · exact ⟨by rw [e2],hi,by rw [e1,e2]⟩
def Q8 (S : List Item) : Item:=S.headD ⟨0,0,0⟩
theorem InvL.first {l : Lad} {S : List Item} {b : Int} {n : Nat} (h : InvL l S b n) (hn : n ≤ 100000) : (ZaH l).2 = (Q8 S,decide (S ≠ [])) ∧ InvL (ZaH l).1 (S.drop 1) b n:=by
 rcases h.pop hn with ⟨rfl,e1,h2⟩ | ⟨x,T,rfl,e1,h2⟩
 · exact ⟨by rw [e1];rfl,h2⟩
 · exact ⟨by rw [e1];rfl,h2⟩
theorem sort_items {l : Lad} {S : List Item} {b : Int} {n : Nat} (h : InvL l S b n) : Z4 Zj l.items = S:=by
 have hs:=Zf7 h.rel.good.uniq
 have hp:=(Zbe l.items).trans h.rel.perm.symm
 have h2:=h.rel.srt
 clear h
 generalize Z4 Zj l.items = T at *
 clear l b n
 revert S
 induction T with
 | nil=>intro S h2 hp;exact (List.Perm.eq_nil hp.symm).symm
 | cons x T ih=>
  intro S h2 hp
  obtain ⟨S',rfl,h3,h4⟩:=Zjj h2 hp.symm (List.pairwise_cons.1 hs).1
  rw [ih (List.pairwise_cons.1 hs).2 h4 h3.symm]
theorem Mem.word_put (m : Mem) (th kind : Int) (i : Nat) (v : Int) (ok : Bool) (j : Nat) (h : i < m.words.length) : (m.put th kind i v ok).word j = if j = i then v else m.word j:=by
 unfold Mem.word Mem.put
 dsimp only
 rw [List.getElem?_set]
 by_cases e : i = j
 · subst e;rw [if_pos rfl,if_pos h,if_pos rfl];rfl
 · rw [if_neg e,if_neg (fun x=>e x.symm)]
theorem Sto.slot_set (s : Sto) (i : Nat) (x : Slt) (j : Nat) (h : i < s.slots.length) : ((s.slots.set i x)[j]?).getD ⟨0,0,0,0⟩ = if j = i then x else s.slot j:=by
 unfold Sto.slot
 rw [List.getElem?_set]
 by_cases e : i = j
 · subst e;rw [if_pos rfl,if_pos h,if_pos rfl];rfl
 · rw [if_neg e,if_neg (fun x=>e x.symm)]
def Sto.st (s : Sto) (i : Nat) : Int:=s.m.word (i + 1) % 4
def Sto.gn (s : Sto) (i : Nat) : Int:=s.m.word (i + 1) / 4
structure SOk (n : Nat) (s : Sto) (S : List Item) (A : Nat → Prop) (K : Nat) : Prop where
 nw : s.m.words.length = n + 1
 nm : s.m.mtx.length = 4
 ns : s.slots.length = n
 n12 : 1 ≤ n ∧ n ≤ 12
 kb : K ≤ 20000
 top : s.m.word 0 = s.q.topStart
 idn : s.idle.Nodup
 idl : ∀ x ∈ s.idle,0 ≤ x ∧ x < n
 wd : ∀ i,i < n → 0 ≤ s.m.word (i + 1) ∧ s.gn i ≤ K
 fr : ∀ i,i < n → ((i : Int) ∈ s.idle ↔ s.st i = 0)
 sl : ∀ i,i < n → (s.slot i).gen = 0 ∧ (s.slot i).state = 0
 sf : ∀ i,i < n → s.st i = 0 → (s.slot i).time = 0 ∧ (s.slot i).seq = 0
 tm : ∀ i,i < n → s.st i ≠ 0 → (0 ≤ (s.slot i).time ∧ (s.slot i).time ≤ 1152921504606846976) ∧ 0 ≤ (s.slot i).seq ∧ (s.slot i).seq < s.next
 sq : ∀ i j,i < n → j < n → s.st i ≠ 0 → s.st j ≠ 0 → (s.slot i).seq = (s.slot j).seq → i = j
 nx : 0 ≤ s.next ∧ s.next ≤ K
 q : ∃ k,k ≤ K ∧ InvL s.q S s.next k
 itm : ∀ x ∈ S,∃ i,i < n ∧ x = s.item i ∧ s.st i ≠ 0 ∧ ¬ A i
 all : ∀ i,i < n → s.st i ≠ 0 → A i ∨ s.item i ∈ S
 hand : ∀ i,A i → i < n ∧ s.st i ≠ 0
theorem SOk.mono {n : Nat} {s : Sto} {S : List Item} {A : Nat → Prop} {K L : Nat} (h : SOk n s S A K) (hl : K ≤ L) (hb : L ≤ 20000) : SOk n s S A L:=
 { h with kb:=hb,wd:=fun i hi=>⟨(h.wd i hi).1,by have:=(h.wd i hi).2;omega⟩,nx:=⟨h.nx.1,by have:=h.nx.2;omega⟩,q:=let ⟨k,hk,hq⟩:=h.q;⟨k,by omega,hq⟩ }
theorem SOk.same {n : Nat} {s : Sto} {S : List Item} {A : Nat → Prop} {K : Nat} (h : SOk n s S A K) {m : Mem} (hw : m.words = s.m.words) (hm : m.mtx.length = 4) : SOk n { s with m:=m } S A K:=by
 have e : ∀ i,m.word i = s.m.word i:=fun i=>by unfold Mem.word;rw [hw]
 have e2 : ∀ i,Sto.st { s with m:=m } i = s.st i:=fun i=>by unfold Sto.st;rw [e]
 have e3 : ∀ i,Sto.gn { s with m:=m } i = s.gn i:=fun i=>by unfold Sto.gn;rw [e]
 exact ⟨by show m.words.length = _;rw [hw];exact h.nw,hm,h.ns,h.n12,h.kb,by show m.word 0 = _;rw [e];exact h.top,h.idn,h.idl,fun i hi=>by rw [e3];show 0 ≤ m.word (i + 1) ∧ _;rw [e];exact h.wd i hi,fun i hi=>by rw [e2];exact h.fr i hi,h.sl,fun i hi=>by rw [e2];exact h.sf i hi,
  fun i hi=>by rw [e2];exact h.tm i hi,fun i j hi hj=>by rw [e2,e2];exact h.sq i j hi hj,h.nx,h.q,fun x hx=>by obtain ⟨i,h1,h2,h3,h4⟩:=h.itm x hx;exact ⟨i,h1,h2,by rw [e2];exact h3,h4⟩,fun i hi=>by rw [e2];exact h.all i hi,fun i hi=>by rw [e2];exact h.hand i hi⟩
theorem SOk.touch {n : Nat} {s : Sto} {S : List Item} {A : Nat → Prop} {K : Nat} (h : SOk n s S A K) (th : Int) (l : List Nat) : SOk n (s.touch th l) S A K:=by
 obtain ⟨t1,t2,t3,t4,t5⟩:=Zg th l s.m
 exact h.same t1 (by rw [t2];exact h.nm)
theorem SOk.sz {n : Nat} {s : Sto} {S : List Item} {A : Nat → Prop} {K : Nat} (h : SOk n s S A K) : s.q.Sz:=by
 obtain ⟨k,hk,hq⟩:=h.q
 exact hq.sz (by have:=h.kb;omega)
theorem SOk.st_cases {n : Nat} {s : Sto} {S : List Item} {A : Nat → Prop} {K : Nat} (h : SOk n s S A K) {i : Nat} (hi : i < n) : s.st i = 0 ∨ s.st i = 1 ∨ s.st i = 2 ∨ s.st i = 3:=by
 have:=(h.wd i hi).1
 unfold Sto.st;omega
theorem SOk.mark {n : Nat} {s : Sto} {S : List Item} {A : Nat → Prop} {K : Nat} (h : SOk n s S A K) {i : Nat} (hi : i < n) (hl : s.st i ≠ 0) (th kind : Int) (ok : Bool) {v : Int} (hv : v / 4 = s.gn i) (hs : v % 4 ≠ 0) : SOk n { s with m:=s.m.put th kind (i + 1) v ok } S A K:=by
 have hwl : i + 1 < s.m.words.length:=by rw [h.nw];omega
 have e : ∀ j,(s.m.put th kind (i + 1) v ok).word j = if j = i + 1 then v else s.m.word j:=fun j=>Mem.word_put _ _ _ _ _ _ _ hwl
 have e2 : ∀ j,Sto.st { s with m:=s.m.put th kind (i + 1) v ok } j = if j = i then v % 4 else s.st j:=fun j=>by
  unfold Sto.st;dsimp only;rw [e]
  by_cases c : j = i
  · rw [if_pos c,if_pos (by omega)]
  · rw [if_neg c,if_neg (by omega)]
 have e3 : ∀ j,Sto.gn { s with m:=s.m.put th kind (i + 1) v ok } j = s.gn j:=fun j=>by
  unfold Sto.gn;dsimp only;rw [e]
  by_cases c : j = i
  · subst c;rw [if_pos rfl];exact hv
  · rw [if_neg (by omega)]
 have e4 : ∀ j,Sto.st { s with m:=s.m.put th kind (i + 1) v ok } j = 0 ↔ s.st j = 0:=fun j=>by
  rw [e2]
  by_cases c : j = i
  · subst c;rw [if_pos rfl];exact ⟨fun x=>absurd x hs,fun x=>absurd x hl⟩
  · rw [if_neg c]
 refine ⟨by show (s.m.words.set _ _).length = _;rw [List.length_set];exact h.nw,h.nm,h.ns,h.n12,h.kb,by show Mem.word _ 0 = _;rw [e,if_neg (by omega)];exact h.top,h.idn,h.idl,fun j hj=>?_,fun j hj=>by rw [e4];exact h.fr j hj,h.sl,fun j hj=>by rw [e4];exact h.sf j hj,
  fun j hj=>by rw [Ne,e4];exact h.tm j hj,fun a b ha hb=>by rw [Ne,e4,Ne,e4];exact h.sq a b ha hb,h.nx,h.q,fun x hx=>?_,fun j hj=>by rw [Ne,e4];exact h.all j hj,fun j hj=>by rw [Ne,e4];exact h.hand j hj⟩
 · rw [e3]
   refine ⟨?_,(h.wd j hj).2⟩
   show 0 ≤ (s.m.put th kind (i + 1) v ok).word (j + 1)
   rw [e]
   by_cases c : j + 1 = i + 1
   · rw [if_pos c]
     have : 0 ≤ s.gn i:=by have:=(h.wd i hi).1;unfold Sto.gn;omega
     omega
   · rw [if_neg c];exact (h.wd j hj).1
 · obtain ⟨j,h1,h2,h3,h4⟩:=h.itm x hx
   exact ⟨j,h1,h2,by rw [Ne,e4];exact h3,h4⟩
theorem SOk.queue {n : Nat} {s : Sto} {S T : List Item} {A B : Nat → Prop} {K : Nat} (h : SOk n s S A K) (th : Int) {q : Lad} (hq : ∃ k,k ≤ K ∧ InvL q T s.next k) (hT : ∀ x ∈ T,∃ i,i < n ∧ x = s.item i ∧ s.st i ≠ 0 ∧ ¬ B i) (hB : ∀ i,i < n → s.st i ≠ 0 → B i ∨ s.item i ∈ T) (hh : ∀ i,B i → i < n ∧ s.st i ≠ 0) : SOk n (s.replace th q) T B K:=by
 have hwl : 0 < s.m.words.length:=by rw [h.nw];omega
 have ew : ∀ j,(s.replace th q).m.word (j + 1) = s.m.word (j + 1):=fun j=>by
  unfold Sto.replace
  dsimp only
  split
  · rfl
  · unfold Mem.store;rw [Mem.word_put _ _ _ _ _ _ _ hwl,if_neg (by omega)]
 have e0 : (s.replace th q).m.word 0 = q.topStart:=by
  unfold Sto.replace
  dsimp only
  split
  · next e=>rw [e];exact h.top
  · unfold Mem.store;rw [Mem.word_put _ _ _ _ _ _ _ hwl,if_pos rfl]
 have e2 : ∀ j,(s.replace th q).st j = s.st j:=fun j=>by unfold Sto.st;rw [ew]
 have e3 : ∀ j,(s.replace th q).gn j = s.gn j:=fun j=>by unfold Sto.gn;rw [ew]
 have el : (s.replace th q).m.words.length = s.m.words.length ∧ (s.replace th q).m.mtx = s.m.mtx:=by
  unfold Sto.replace
  dsimp only
  split
  · exact ⟨rfl,rfl⟩
  · exact ⟨by simp [Mem.store,Mem.put],rfl⟩
 refine ⟨by rw [el.1];exact h.nw,by rw [el.2];exact h.nm,h.ns,h.n12,h.kb,e0,h.idn,h.idl,fun j hj=>by rw [e3,ew];exact h.wd j hj,fun j hj=>by rw [e2];exact h.fr j hj,h.sl,fun j hj=>by rw [e2];exact h.sf j hj,
  fun j hj=>by rw [e2];exact h.tm j hj,fun a b ha hb=>by rw [e2,e2];exact h.sq a b ha hb,h.nx,hq,fun x hx=>?_,fun j hj=>by rw [e2];exact hB j hj,fun j hj=>by rw [e2];exact hh j hj⟩
 obtain ⟨i,h1,h2,h3,h4⟩:=hT x hx
 exact ⟨i,h1,h2,by rw [e2];exact h3,h4⟩
theorem SOk.peek {n : Nat} {s : Sto} {S : List Item} {A : Nat → Prop} {K : Nat} (h : SOk n s S A K) (th : Int) : SOk n (s.take th (ZH s.q)) S A K:=by
 obtain ⟨k,hk,hq⟩:=h.q
 exact (h.touch th [0,1,2]).queue th ⟨k,hk,(hq.peek (by have:=h.kb;omega)).2.1⟩ (h.touch th [0,1,2]).itm (h.touch th [0,1,2]).all (h.touch th [0,1,2]).hand
theorem Za8 {s : Sto} {i j : Nat} (h : s.item i = s.item j) : i = j:=by
 have:=congrArg Item.slot h
 have e : (i : Int) = (j : Int):=this
 omega
theorem SOk.srt {n : Nat} {s : Sto} {S : List Item} {A : Nat → Prop} {K : Nat} (h : SOk n s S A K) : S.Pairwise Bf:=by
 obtain ⟨k,hk,hq⟩:=h.q
 exact hq.rel.srt
theorem SOk.head_out {n : Nat} {s : Sto} {x : Item} {T : List Item} {A : Nat → Prop} {K : Nat} (h : SOk n s (x :: T) A K) : x ∉ T:=fun hx=>by
 have:=(List.pairwise_cons.1 h.srt).1 x hx
 exact Bf.irrefl x this
theorem SOk.drop {n : Nat} {s : Sto} {x : Item} {T : List Item} {A : Nat → Prop} {K : Nat} (h : SOk n s (x :: T) A K) (th : Int) : ∃ i,i < n ∧ x = s.item i ∧ s.st i ≠ 0 ∧ ¬ A i ∧ SOk n (s.take th (ZaH s.q).1) T (fun j=>A j ∨ j = i) K:=by
 have h1:=h.touch th [0,1,2]
 obtain ⟨i,hi,hx,hl,hA⟩:=h.itm x List.mem_cons_self
 obtain ⟨k,hk,hq⟩:=h.q
 have hout:=h.head_out
 refine ⟨i,hi,hx,hl,hA,h1.queue th ⟨k,hk,(hq.first (by have:=h.kb;omega)).2⟩ (fun y hy=>?_) (fun j hj hlj=>?_) (fun j hj=>?_)⟩
 · obtain ⟨j,a1,a2,a3,a4⟩:=h1.itm y (List.mem_cons_of_mem _ hy)
   refine ⟨j,a1,a2,a3,fun c=>c.elim a4 fun e=>hout ?_⟩
   subst e
   have e : x = y:=hx.trans a2.symm
   rw [e];exact hy
 · rcases h1.all j hj hlj with a | a
   · exact .inl (.inl a)
   · rcases List.mem_cons.1 a with e | a
     · exact .inl (.inr (Za8 (s:=s) (e.trans hx)))
     · exact .inr a
 · rcases hj with a | a
   · exact h1.hand j a
   · rw [a]
     obtain ⟨m,b1,b2,b3,b4⟩:=h1.itm x List.mem_cons_self
     have e : i = m:=Za8 (s:=s) (hx.symm.trans b2)
     rw [e];exact ⟨b1,b3⟩
theorem SOk.last {n : Nat} {s : Sto} {S : List Item} {A : Nat → Prop} {K : Nat} (h : SOk n s S A K) : s.idle = [] ∨ ∃ l i,s.idle = l ++ [((i : Nat) : Int)] ∧ i < n ∧ s.st i = 0 ∧ (i : Int) ∉ l:=by
 rcases List.eq_nil_or_concat s.idle with e | ⟨l,x,e⟩
 · exact .inl e
 · rw [List.concat_eq_append] at e
   have hx:=h.idl x (by rw [e];simp)
   obtain ⟨i,rfl⟩:=Int.eq_ofNat_of_zero_le hx.1
   have hn:=h.idn
   rw [e] at hn
   refine .inr ⟨l,i,e,by omega,(h.fr i (by omega)).1 (by rw [e];simp),?_⟩
   have:=(List.nodup_append.1 hn).2.2
   exact fun hl=>this _ hl _ (by simp) rfl
theorem SOk.alloc {n : Nat} {s : Sto} {S : List Item} {A : Nat → Prop} {K : Nat} (h : SOk n s S A K) (th t : Int) (ht : 0 ≤ t ∧ t ≤ 1152921504606846976) {l : List Int} {i : Nat} (hid : s.idle = l ++ [(i : Int)]) (hi : i < n) (hK : K + 1 ≤ 20000) :
 SOk n (s.alloc1 th t l i) S (fun j=>A j ∨ j = i) (K + 1) ∧ s.st i = 0 ∧ (s.alloc1 th t l i).st i = 1 ∧ (s.alloc1 th t l i).gn i = s.gn i:=by
 have hwl : i + 1 < s.m.words.length:=by rw [h.nw];omega
 have hsl : i < s.slots.length:=by rw [h.ns];omega
 have h0 : s.st i = 0:=(h.fr i hi).1 (by rw [hid];simp)
 have hw0:=(h.wd i hi).1
 have ew : ∀ j,(s.alloc1 th t l i).m.word j = if j = i + 1 then 4 * (s.m.word (i + 1) / 4) + 1 else s.m.word j:=fun j=>Mem.word_put _ _ _ _ _ _ _ hwl
 have es : ∀ j,(s.alloc1 th t l i).slot j = if j = i then ⟨0,0,t,s.next⟩ else s.slot j:=fun j=>Sto.slot_set s i _ j hsl
 have e2 : ∀ j,(s.alloc1 th t l i).st j = if j = i then 1 else s.st j:=fun j=>by
  unfold Sto.st;rw [ew]
  by_cases c : j = i
  · rw [if_pos c,if_pos (by omega)];omega
  · rw [if_neg c,if_neg (by omega)]
 have e3 : ∀ j,(s.alloc1 th t l i).gn j = s.gn j:=fun j=>by
  unfold Sto.gn;rw [ew]
  by_cases c : j = i
  · subst c;rw [if_pos rfl];omega
  · rw [if_neg (by omega)]
 have ei : ∀ j,j ≠ i → (s.alloc1 th t l i).item j = s.item j:=fun j hj=>by unfold Sto.item;rw [es,if_neg hj]
 have hn:=h.idn
 rw [hid] at hn
 have hnl : (i : Int) ∉ l:=fun hl=>(List.nodup_append.1 hn).2.2 _ hl _ (by simp) rfl
 have hnx:=h.nx
 refine ⟨⟨by show (s.m.words.set _ _).length = _;rw [List.length_set];exact h.nw,h.nm,by show (s.slots.set _ _).length = _;rw [List.length_set];exact h.ns,h.n12,hK,by rw [ew,if_neg (by omega)];exact h.top,(List.nodup_append.1 hn).1,fun x hx=>h.idl x (by rw [hid];exact List.mem_append_left _ hx),fun j hj=>?_,fun j hj=>?_,fun j hj=>?_,fun j hj hz=>?_,fun j hj hz=>?_,fun a b ha hb hla hlb hab=>?_,by show 0 ≤ s.next + 1 ∧ s.next + 1 ≤ _;push_cast;omega,?_,fun x hx=>?_,fun j hj hz=>?_,fun j hj=>?_⟩,h0,by rw [e2,if_pos rfl],e3 i⟩
 · rw [e3,ew]
   refine ⟨?_,by have:=(h.wd j hj).2;push_cast;omega⟩
   by_cases c : j + 1 = i + 1
   · rw [if_pos c];omega
   · rw [if_neg c];exact (h.wd j hj).1
 · show (j : Int) ∈ l ↔ _
   rw [e2]
   by_cases c : j = i
   · subst c;rw [if_pos rfl];exact ⟨fun x=>absurd x hnl,fun x=>by omega⟩
   · rw [if_neg c,← h.fr j hj,hid]
     simp only [List.mem_append,List.mem_singleton]
     exact ⟨fun x=>.inl x,fun x=>x.elim id fun e=>absurd (by omega) c⟩
 · rw [es]
   by_cases c : j = i
   · rw [if_pos c];exact ⟨rfl,rfl⟩
   · rw [if_neg c];exact h.sl j hj
 · rw [e2] at hz
   rw [es]
   by_cases c : j = i
   · rw [if_pos c] at hz;omega
   · rw [if_neg c] at hz ⊢;exact h.sf j hj hz
 · rw [e2] at hz
   rw [es]
   show _ ∧ _ ∧ _ < s.next + 1
   by_cases c : j = i
   · rw [if_pos c];exact ⟨ht,hnx.1,by dsimp only;omega⟩
   · rw [if_neg c] at hz ⊢
     have:=h.tm j hj hz
     exact ⟨this.1,this.2.1,by omega⟩
 · rw [e2] at hla hlb
   rw [es,es] at hab
   by_cases c : a = i
   · by_cases d : b = i
     · omega
     · rw [if_pos c,if_neg d] at hab
       rw [if_neg d] at hlb
       have:=(h.tm b hb hlb).2.2
       dsimp only at hab;omega
   · by_cases d : b = i
     · rw [if_neg c,if_pos d] at hab
       rw [if_neg c] at hla
       have:=(h.tm a ha hla).2.2
       dsimp only at hab;omega
     · rw [if_neg c,if_neg d] at hab
       rw [if_neg c] at hla
       rw [if_neg d] at hlb
       exact h.sq a b ha hb hla hlb hab
 · obtain ⟨k,hk,hq⟩:=h.q
   exact ⟨k,by omega,hq.mono (by show s.next ≤ s.next + 1;omega)⟩
 · obtain ⟨j,a1,a2,a3,a4⟩:=h.itm x hx
   have c : j ≠ i:=fun e=>a3 (by rw [e];exact h0)
   exact ⟨j,a1,by rw [ei j c];exact a2,by rw [e2,if_neg c];exact a3,fun x=>x.elim a4 c⟩
 · rw [e2] at hz
   by_cases c : j = i
   · exact .inl (.inr c)
   · rw [if_neg c] at hz
     rw [ei j c]
     exact (h.all j hj hz).elim (fun a=>.inl (.inl a)) .inr
 · rcases hj with a | a
   · have:=h.hand j a
     have c : j ≠ i:=fun e=>this.2 (by rw [e];exact h0)
     exact ⟨this.1,by rw [e2,if_neg c];exact this.2⟩
   · subst a;exact ⟨hi,by rw [e2,if_pos rfl];omega⟩
theorem SOk.put {n : Nat} {s : Sto} {S : List Item} {A : Nat → Prop} {K : Nat} (h : SOk n s S A K) (th : Int) {i : Nat} (ha : A i) (hK : K + 1 ≤ 20000) :
 SOk n (s.put th i) (ZiY S (s.item i)) (fun j=>A j ∧ j ≠ i) (K + 1) ∧ PSpec Tryz.prog 200 [s.q.v,(s.item i).v] ((Z6 s.q (s.item i)).v) ∧ s.item i ∉ S:=by
 obtain ⟨hi,hl⟩:=h.hand i ha
 obtain ⟨k,hk,hq⟩:=h.q
 have htm:=h.tm i hi hl
 have hout : s.item i ∉ S:=fun hx=>by
  obtain ⟨j,a1,a2,a3,a4⟩:=h.itm _ hx
  have:=Za8 a2
  subst this;exact a4 ha
 have hne : ∀ x ∈ S,x.seq ≠ (s.item i).seq:=fun x hx e=>by
  obtain ⟨j,a1,a2,a3,a4⟩:=h.itm x hx
  subst a2
  have:=h.sq j i a1 hi a3 hl e
  subst this;exact a4 ha
 have hins:=hq.ins (it:=s.item i) htm.1 htm.2 hne
 refine ⟨?_,hq.insC (by have:=h.kb;omega) htm.1 hne,hout⟩
 have h1:=(h.touch th (s.putL (s.slot i).time)).mono (L:=K + 1) (by omega) hK
 have hl1 : (s.touch th (s.putL (s.slot i).time)).st i ≠ 0:=(h1.hand i ha).2
 refine { h1 with q:=⟨k + 1,by omega,hins⟩,itm:=?_,all:=?_,hand:=fun j hj=>h1.hand j hj.1,top:=?_ }
 · have e : (Z6 s.q (s.item i)).topStart = s.q.topStart:=by unfold Z6;split;rfl;split <;> rfl
   show _ = (Z6 s.q (s.item i)).topStart
   rw [e];exact h1.top
 · intro x hx
   rcases Zcb.1 hx with rfl | hx
   · exact ⟨i,hi,rfl,hl1,fun c=>c.2 rfl⟩
   · obtain ⟨j,a1,a2,a3,a4⟩:=h1.itm x hx
     exact ⟨j,a1,a2,a3,fun c=>a4 c.1⟩
 · intro j hj hlj
   by_cases c : j = i
   · subst c;exact .inr (Zcb.2 (.inl rfl))
   · rcases h1.all j hj hlj with a | a
     · exact .inl ⟨a,c⟩
     · exact .inr (Zcb.2 (.inr a))
theorem SOk.free {n : Nat} {s : Sto} {S : List Item} {A : Nat → Prop} {K : Nat} (h : SOk n s S A K) (th : Int) {i : Nat} (ha : A i) (hK : K + 1 ≤ 20000) :
 SOk n (s.free1 th i) S (fun j=>A j ∧ j ≠ i) (K + 1) ∧ (s.free1 th i).st i = 0 ∧ (s.free1 th i).gn i = s.gn i + 1:=by
 obtain ⟨hi,hl⟩:=h.hand i ha
 have hwl : i + 1 < s.m.words.length:=by rw [h.nw];omega
 have hsl : i < s.slots.length:=by rw [h.ns];omega
 have hw0:=(h.wd i hi).1
 have ew : ∀ j,(s.free1 th i).m.word j = if j = i + 1 then 4 * (s.m.word (i + 1) / 4 + 1) + 0 else s.m.word j:=fun j=>Mem.word_put _ _ _ _ _ _ _ hwl
 have es : ∀ j,(s.free1 th i).slot j = if j = i then ⟨0,0,0,0⟩ else s.slot j:=fun j=>Sto.slot_set s i _ j hsl
 have e2 : ∀ j,(s.free1 th i).st j = if j = i then 0 else s.st j:=fun j=>by
  unfold Sto.st;rw [ew]
  by_cases c : j = i
  · rw [if_pos c,if_pos (by omega)];omega
  · rw [if_neg c,if_neg (by omega)]
 have e3 : ∀ j,(s.free1 th i).gn j = if j = i then s.gn i + 1 else s.gn j:=fun j=>by
  unfold Sto.gn;rw [ew]
  by_cases c : j = i
  · rw [if_pos c,if_pos (by omega)];omega
  · rw [if_neg c,if_neg (by omega)]
 have ei : ∀ j,j ≠ i → (s.free1 th i).item j = s.item j:=fun j hj=>by unfold Sto.item;rw [es,if_neg hj]
 have hni : (i : Int) ∉ s.idle:=fun hx=>hl ((h.fr i hi).1 hx)
 refine ⟨⟨by show (s.m.words.set _ _).length = _;rw [List.length_set];exact h.nw,h.nm,by show (s.slots.set _ _).length = _;rw [List.length_set];exact h.ns,h.n12,hK,by rw [ew,if_neg (by omega)];exact h.top,?_,fun x hx=>?_,fun j hj=>?_,fun j hj=>?_,fun j hj=>?_,fun j hj hz=>?_,fun j hj hz=>?_,fun a b ha hb hla hlb hab=>?_,by have:=h.nx;show 0 ≤ s.next ∧ s.next ≤ _;push_cast;omega,?_,fun x hx=>?_,fun j hj hz=>?_,fun j hj=>?_⟩,by rw [e2,if_pos rfl],by rw [e3,if_pos rfl]⟩
 · show (s.idle ++ [(i : Int)]).Nodup
   exact List.nodup_append.2 ⟨h.idn,by simp,fun a ha b hb e=>by rw [List.mem_singleton] at hb;subst hb;subst e;exact hni ha⟩
 · rcases List.mem_append.1 hx with hx | hx
   · exact h.idl x hx
   · rw [List.mem_singleton] at hx;subst hx;omega
 · rw [e3,ew]
   have hwj:=h.wd j hj
   by_cases c : j = i
   · subst c;rw [if_pos rfl,if_pos rfl];push_cast;omega
   · rw [if_neg c,if_neg (by omega)];push_cast;omega
 · show (j : Int) ∈ s.idle ++ [(i : Int)] ↔ _
   rw [e2]
   simp only [List.mem_append,List.mem_singleton]
   by_cases c : j = i
   · subst c;simp
   · rw [if_neg c,← h.fr j hj]
     exact ⟨fun x=>x.elim id fun e=>absurd (by omega) c,.inl⟩
 · rw [es]
   by_cases c : j = i
   · rw [if_pos c];exact ⟨rfl,rfl⟩
   · rw [if_neg c];exact h.sl j hj
 · rw [e2] at hz
   rw [es]
   by_cases c : j = i
   · rw [if_pos c];exact ⟨rfl,rfl⟩
   · rw [if_neg c] at hz ⊢;exact h.sf j hj hz
 · rw [e2] at hz
   rw [es]
   by_cases c : j = i
   · rw [if_pos c] at hz;exact absurd rfl hz
   · rw [if_neg c] at hz ⊢;exact h.tm j hj hz
 · rw [e2] at hla hlb
   rw [es,es] at hab
   by_cases c : a = i
   · rw [if_pos c] at hla;exact absurd rfl hla
   · by_cases d : b = i
     · rw [if_pos d] at hlb;exact absurd rfl hlb
     · rw [if_neg c,if_neg d] at hab
       rw [if_neg c] at hla
       rw [if_neg d] at hlb
       exact h.sq a b ha hb hla hlb hab
 · obtain ⟨k,hk,hq⟩:=h.q
   exact ⟨k,by omega,hq⟩
 · obtain ⟨j,a1,a2,a3,a4⟩:=h.itm x hx
   have c : j ≠ i:=fun e=>a4 (by rw [e];exact ha)
   exact ⟨j,a1,by rw [ei j c];exact a2,by rw [e2,if_neg c];exact a3,fun x=>a4 x.1⟩
 · rw [e2] at hz
   by_cases c : j = i
   · rw [if_pos c] at hz;exact absurd rfl hz
   · rw [if_neg c] at hz
     rw [ei j c]
     exact (h.all j hj hz).elim (fun a=>.inl ⟨a,c⟩) .inr
 · have:=h.hand j hj.1
   exact ⟨this.1,by rw [e2,if_neg hj.2];exact this.2⟩
theorem YF : ∀ (n : Nat) (l : List Nat),l.Nodup → (∀ x ∈ l,x < n) → l.length ≤ n
 | 0,l,_,h=>by
  cases l with
  | nil=>simp
  | cons a l=>exact absurd (h a List.mem_cons_self) (by omega)
 | n + 1,l,hn,h=>by
  by_cases hm : n ∈ l
  · have h1:=YF n (l.erase n) (hn.erase n) fun x hx=>by
     have h2:=(hn.mem_erase_iff).1 hx
     have:=h x h2.2
     have:=h2.1
     omega
    rw [List.length_erase_of_mem hm] at h1
    omega
  · have h1:=YF n l hn fun x hx=>by
     have:=h x hx
     have : x ≠ n:=fun e=>hm (e ▸ hx)
     omega
    omega
theorem Yk {α β : Type} {f : α → β} : ∀ {l : List α},l.Nodup → (∀ a ∈ l,∀ b ∈ l,f a = f b → a = b) → (l.map f).Nodup
 | [],_,_=>.nil
 | a :: l,h,hf=>by
  rw [List.nodup_cons] at h
  rw [List.map_cons,List.nodup_cons]
  refine ⟨fun hm=>?_,Yk h.2 fun x hx y hy=>hf x (List.mem_cons_of_mem _ hx) y (List.mem_cons_of_mem _ hy)⟩
  obtain ⟨b,hb,e⟩:=List.mem_map.1 hm
  have:=hf b (List.mem_cons_of_mem _ hb) a List.mem_cons_self e
  subst this;exact h.1 hb
theorem SOk.idle_len {n : Nat} {s : Sto} {S : List Item} {A : Nat → Prop} {K : Nat} (h : SOk n s S A K) : s.idle.length ≤ n:=by
 have:=YF n (s.idle.map Int.toNat) (Yk h.idn fun a ha b hb e=>by
  have:=h.idl a ha
  have:=h.idl b hb
  omega) fun x hx=>by
   obtain ⟨y,hy,rfl⟩:=List.mem_map.1 hx
   have:=h.idl y hy
   omega
 simpa using this
theorem SOk.nodup {n : Nat} {s : Sto} {S : List Item} {A : Nat → Prop} {K : Nat} (h : SOk n s S A K) : S.Nodup:=
 List.Pairwise.imp (S:=fun x y=>x ≠ y) (fun {x y} hxy e=>Bf.irrefl x (by rw [← e] at hxy;exact hxy)) h.srt
theorem SOk.len {n : Nat} {s : Sto} {S : List Item} {A : Nat → Prop} {K : Nat} (h : SOk n s S A K) : S.length ≤ n:=by
 have hs : ∀ x ∈ S,∃ i : Nat,i < n ∧ x = s.item i:=fun x hx=>let ⟨i,a,b,_⟩:=h.itm x hx;⟨i,a,b⟩
 have:=YF n (S.map fun x=>x.slot.toNat) (Yk h.nodup fun a ha b hb e=>by
  obtain ⟨i,_,rfl⟩:=hs a ha
  obtain ⟨j,_,rfl⟩:=hs b hb
  have e : ((i : Int)).toNat = ((j : Int)).toNat:=e
  have : i = j:=by omega
  rw [this]) fun x hx=>by
   obtain ⟨y,hy,rfl⟩:=List.mem_map.1 hx
   obtain ⟨i,hi,rfl⟩:=hs y hy
   show ((i : Int)).toNat < n
   omega
 simpa using this
theorem Zfo {m : Mem} {th : Int} : ∀ {l : List Nat},(∀ i ∈ l,m.held i = (true,th)) → m.touches th l = m
 | [],_=>rfl
 | i :: l,h=>by
  have e : m.touch th i = m:=by unfold Mem.touch;rw [if_pos (h i List.mem_cons_self)]
  show (m.touch th i).touches th l = m
  rw [e]
  exact Zfo fun j hj=>h j (List.mem_cons_of_mem _ hj)
theorem Sto.touch_id {s : Sto} {th : Int} {l : List Nat} (h : ∀ i ∈ l,s.m.held i = (true,th)) : s.touch th l = s:=by
 unfold Sto.touch;rw [Zfo h]
structure SB (n : Nat) (s : Sto) (S : List Item) (A : Nat → Prop) (K : Nat) : Prop extends SOk n s S A K where
 log : s.m.log.length ≤ 10 * K + 10
 viol : 0 ≤ s.m.viol ∧ s.m.viol ≤ 10 * K + 10
theorem SB.fits {n : Nat} {s : Sto} {S : List Item} {A : Nat → Prop} {K : Nat} (h : SB n s S A K) : s.Fits:=by
 have h1:=h.log
 have h2:=h.viol
 have h3:=h.kb
 have h4:=h.n12
 have h5:=h.nx
 have h6:=h.idle_len
 exact ⟨⟨by omega,by omega,by rw [h.nw];omega,by rw [h.nm];omega⟩,by rw [h.ns];omega,by omega,by omega⟩
theorem SB.smallv {n : Nat} {s : Sto} {S : List Item} {A : Nat → Prop} {K : Nat} (h : SB n s S A K) : s.m.viol < 100000000:=by
 have h2:=h.viol
 have h3:=h.kb
 omega
def Sto.all4 (s : Sto) (th : Int) : Prop:=∀ i,i < 4 → s.m.held i = (true,th)
theorem ZfZ (s : Sto) (th : Int) (q : Lad) : (s.replace th q).m.mtx = s.m.mtx ∧ (s.replace th q).m.viol = s.m.viol ∧ (s.replace th q).m.log.length ≤ s.m.log.length + 1 ∧ s.m.log.length ≤ (s.replace th q).m.log.length:=by
 unfold Sto.replace
 dsimp only
 split
 · exact ⟨rfl,rfl,by omega,by omega⟩
 · exact ⟨rfl,rfl,by simp [Mem.store,Mem.put],by simp [Mem.store,Mem.put]⟩
theorem Zql {s t : Sto} {th : Int} (h : s.all4 th) (e : t.m.mtx = s.m.mtx) : t.all4 th:=fun i hi=>by
 have:=h i hi
 unfold Mem.held at this ⊢
 rw [e];exact this
theorem SOk.rungs {n : Nat} {s : Sto} {S : List Item} {A : Nat → Prop} {K : Nat} (h : SOk n s S A K) : (∀ r ∈ s.q.rungs,r.Fits) ∧ s.q.rungs.length < 1000000:=by
 obtain ⟨k,hk,hq⟩:=h.q
 have hs:=h.sz
 have hd:=hq.rel.good.depth
 exact ⟨fun r hr=>(Zre hq.rel.good hs r hr).1.fits,by omega⟩
theorem SOk.small {n : Nat} {s : Sto} {S : List Item} {A : Nat → Prop} {K : Nat} (h : SOk n s S A K) : s.q.Small ∧ s.q.items.length ≤ 12 ∧ Z4 Zj s.q.items = S:=by
 obtain ⟨k,hk,hq⟩:=h.q
 have:=hq.rel.perm.length_eq
 have:=h.len
 have:=h.n12
 exact ⟨hq.small (by have:=h.kb;omega),by omega,Abs.sort_items hq⟩
theorem SOk.firstP {n : Nat} {s : Sto} {S : List Item} {A : Nat → Prop} {K : Nat} (h : SOk n s S A K) : PSpec Tryz.prog 202 [s.q.v] (.tup [(ZH s.q).v,(Q8 S).v,V.bool (decide (S ≠ []))]) ∧ PSpec Tryz.prog 203 [s.q.v] (.tup [(ZaH s.q).1.v,(Q8 S).v,V.bool (decide (S ≠ []))]):=by
 obtain ⟨k,hk,hq⟩:=h.q
 have hb : k ≤ 100000:=by have:=h.kb;omega
 have e1:=(hq.first hb).1
 obtain ⟨e2,_,e3⟩:=hq.peek hb
 have p1:=hq.peekC hb
 have p2:=hq.popC hb
 rw [e2,e3,e1] at p1
 rw [e1] at p2
 exact ⟨p1,p2⟩
structure OpS where
 kind : Int
 at' : Int
 near : Bool
def OpS.v (o : OpS) : V:=.agg [.c (.int .u8 o.kind),.c (.int .u64 o.at'),V.bool o.near]
def OpS.row (o : OpS) : List D:=[.c (.int .u8 o.kind),.c (.int .u64 o.at'),.c (.bool o.near)]
def Znl (l : List OpS) : V:=.lst 3 (l.map OpS.row) false
structure OpS.Ok (o : OpS) : Prop where
 kind : 0 ≤ o.kind ∧ o.kind ≤ 255
 at' : 0 ≤ o.at' ∧ o.at' ≤ 18446744073709551615
def OpS.time (o : OpS) : Int:=if o.near = true then o.at'.tmod 40 else o.at'.tmod 1152921504606846977
theorem OpS.time_ok {o : OpS} (h : o.Ok) : 0 ≤ o.time ∧ o.time ≤ 1152921504606846976:=by
 have h1:=h.at'.1
 have k1:=Int.tmod_nonneg (b:=40) h1
 have k2:=Int.tmod_nonneg (b:=1152921504606846977) h1
 have k3:=YB o.at' 40 (by omega)
 have k4:=YB o.at' 1152921504606846977 (by omega)
 unfold OpS.time
 split <;> omega
theorem Zpx (o : OpS) (h : o.Ok) : PSpec Tryz.prog 141 [o.v] (V.int o.time):=by
 have h1:=h.at'.1
 have k1:=Int.tmod_nonneg (b:=40) h1
 have k2:=Int.tmod_nonneg (b:=1152921504606846977) h1
 have k3:=YB o.at' 40 (by omega)
 have k4:=YB o.at' 1152921504606846977 (by omega)
 obtain ⟨k,a,nr⟩:=o
 refine pspec tab_ok mix Tryz.func141 (by kernel_rfl) rfl rfl ?_
 dsimp only at *
 cases nr
 · (refine go ?_; try exact tt)
   refine wrB (by dsimp only;omega) (go ?_)
   exact .same rfl
 · (refine go ?_; try exact tt)
   refine wrB (by dsimp only;omega) (go ?_)
   exact .same rfl
structure StepR (n : Nat) (o : OpS) (s : Sto) (K : Nat) (r : Int) (t : Sto) (T : List Item) : Prop where
 ok : SB n t T (fun _=>False) (K + 4)
 held : t.all4 0
 viol : t.m.viol = s.m.viol
 mono : ∀ j,j < n → s.gn j ≤ t.gn j ∧ (s.st j ≠ 0 → t.st j ≠ 0 ∨ s.gn j < t.gn j)
 ret : o.kind.tmod 5 ≤ 1 → (r = -1 ∧ s.idle = []) ∨ ∃ i : Nat,i < n ∧ s.st i = 0 ∧ s.idle ≠ [] ∧ r = 64 * s.gn i + i ∧ t.st i = 1 ∧ t.gn i = s.gn i
theorem Zeh {s : Sto} (h : s.all4 0) (q : Lad) : s.take 0 q = s.replace 0 q:=by
 unfold Sto.take
 rw [Sto.touch_id (th:=0) (l:=[0,1,2]) (fun i hi=>h i (by simp at hi;omega))]
theorem SB.take {n : Nat} {s : Sto} {S T : List Item} {A B : Nat → Prop} {K : Nat} (h : SB n s S A K) (hK : K + 1 ≤ 20000) (hh : s.all4 0) {q : Lad} (ht : SOk n (s.take 0 q) T B K) : SB n (s.take 0 q) T B (K + 1) ∧ (s.take 0 q).all4 0 ∧ (s.take 0 q).m.viol = s.m.viol:=by
 rw [Zeh hh] at ht ⊢
 obtain ⟨k1,k2,k3,k4⟩:=ZfZ s 0 q
 have:=h.log
 have:=h.viol
 exact ⟨⟨ht.mono (by omega) hK,by push_cast;omega,by push_cast;omega⟩,Zql hh k1,k2⟩
theorem SB.mono {n : Nat} {s : Sto} {S : List Item} {A : Nat → Prop} {K L : Nat} (h : SB n s S A K) (hl : K ≤ L) (hb : L ≤ 20000) : SB n s S A L:=
 ⟨h.toSOk.mono hl hb,by have:=h.log;omega,by have:=h.viol;omega⟩
theorem QQ {s : Sto} {th : Int} {q : Lad} (hw : 0 < s.m.words.length) (j : Nat) : (s.replace th q).st j = s.st j ∧ (s.replace th q).gn j = s.gn j:=by
 have ew : (s.replace th q).m.word (j + 1) = s.m.word (j + 1):=by
  unfold Sto.replace
  dsimp only
  split
  · rfl
  · unfold Mem.store;rw [Mem.word_put _ _ _ _ _ _ _ hw,if_neg (by omega)]
 unfold Sto.st Sto.gn
 rw [ew];exact ⟨rfl,rfl⟩
theorem ZV (m : Mem) (th kind : Int) (i : Nat) (ok : Bool) (h : i < m.words.length) : (m.put th kind i (m.word i) ok).words = m.words:=by
 show m.words.set i (m.word i) = m.words
 have e : m.word i = m.words[i]:=by
  have:=Mem.word_get h
  rw [List.getElem?_eq_getElem h] at this
  exact (Option.some.inj this).symm
 rw [e,List.set_getElem_self]
theorem ZbY {s : Sto} {i : Nat} (hw : i + 1 < s.m.words.length) (th kind : Int) (ok : Bool) {v : Int} (hv : v / 4 = s.gn i) (j : Nat) :
 Sto.gn { s with m:=s.m.put th kind (i + 1) v ok } j = s.gn j ∧ Sto.st { s with m:=s.m.put th kind (i + 1) v ok } j = if j = i then v % 4 else s.st j:=by
 unfold Sto.gn Sto.st at *
 dsimp only
 rw [Mem.word_put _ _ _ _ _ _ _ hw]
 by_cases c : j = i
 · subst c;rw [if_pos rfl,if_pos rfl];exact ⟨hv,rfl⟩
 · rw [if_neg (by omega),if_neg c];exact ⟨rfl,rfl⟩
theorem Zen {s : Sto} {i : Nat} (hw : i + 1 < s.m.words.length) (th : Int) (h0 : 0 ≤ s.m.word (i + 1)) (j : Nat) :
 (s.free1 th i).gn j = (if j = i then s.gn j + 1 else s.gn j) ∧ (s.free1 th i).st j = if j = i then 0 else s.st j:=by
 have ew : ∀ j,(s.free1 th i).m.word j = if j = i + 1 then 4 * (s.m.word (i + 1) / 4 + 1) + 0 else s.m.word j:=fun j=>Mem.word_put _ _ _ _ _ _ _ hw
 unfold Sto.gn Sto.st
 rw [ew]
 by_cases c : j = i
 · subst c;rw [if_pos rfl,if_pos rfl,if_pos rfl];omega
 · rw [if_neg (by omega),if_neg c,if_neg c];exact ⟨rfl,rfl⟩
theorem ZeO {s : Sto} {i : Nat} (hw : i + 1 < s.m.words.length) (th t : Int) (l : List Int) (h0 : 0 ≤ s.m.word (i + 1)) (j : Nat) :
 (s.alloc1 th t l i).gn j = s.gn j ∧ (s.alloc1 th t l i).st j = if j = i then 1 else s.st j:=by
 have ew : ∀ j,(s.alloc1 th t l i).m.word j = if j = i + 1 then 4 * (s.m.word (i + 1) / 4) + 1 else s.m.word j:=fun j=>Mem.word_put _ _ _ _ _ _ _ hw
 unfold Sto.gn Sto.st
 rw [ew]
 by_cases c : j = i
 · subst c;rw [if_pos rfl,if_pos rfl];omega
 · rw [if_neg (by omega),if_neg c];exact ⟨rfl,rfl⟩
def ZbX (n : Nat) : Sto:=⟨ZnE (n + 1) 4,List.replicate n slt0,Zkr n,0,⟨0,[],[],[],0,0⟩⟩
theorem Zl3 {n : Nat} (h : 1 ≤ n ∧ n ≤ 12) : SB n (ZbX n) [] (fun _=>False) 0:=by
 have hw : ∀ i,(ZbX n).m.word i = 0:=fun i=>by
  show ((List.replicate (n + 1) (0 : Int))[i]?).getD 0 = 0
  rw [List.getElem?_replicate];split <;> rfl
 have hs : ∀ i,(ZbX n).slot i = slt0:=fun i=>by
  show ((List.replicate n slt0)[i]?).getD ⟨0,0,0,0⟩ = slt0
  rw [List.getElem?_replicate];split <;> rfl
 have hst : ∀ i,(ZbX n).st i = 0:=fun i=>by unfold Sto.st;rw [hw];rfl
 have hid : ∀ x,x ∈ (ZbX n).idle ↔ ∃ i : Nat,i < n ∧ x = i:=fun x=>by
  show x ∈ (((List.range n).map fun i : Nat=>(i : Int))).reverse ↔ _
  simp only [List.mem_reverse,List.mem_map,List.mem_range]
  exact ⟨fun ⟨i,a,b⟩=>⟨i,a,b.symm⟩,fun ⟨i,a,b⟩=>⟨i,a,b.symm⟩⟩
 refine ⟨⟨by simp [ZbX,ZnE],by simp [ZbX,ZnE],by simp [ZbX],h,by omega,hw 0,?_,fun x hx=>?_,fun i hi=>by rw [hw];unfold Sto.gn;rw [hw];decide,fun i hi=>?_,fun i hi=>by rw [hs];exact ⟨rfl,rfl⟩,fun i hi _=>by rw [hs];exact ⟨rfl,rfl⟩,fun i hi hz=>absurd (hst i) hz,fun i j _ _ hz=>absurd (hst i) hz,⟨Int.le_refl _,Int.le_refl _⟩,⟨0,Nat.le_refl _,Znu⟩,fun x hx=>(List.not_mem_nil hx).elim,fun i hi hz=>absurd (hst i) hz,fun i hi=>False.elim hi⟩,by simp [ZbX,ZnE],by show (0 : Int) ≤ 0 ∧ (0 : Int) ≤ _;omega⟩
 · show ((((List.range n).map fun i : Nat=>(i : Int))).reverse).Nodup
   rw [List.Nodup,List.pairwise_reverse]
   exact (Yk List.nodup_range fun a _ b _ e=>by omega : ((List.range n).map fun i : Nat=>(i : Int)).Nodup).imp fun h=>h.symm
 · obtain ⟨i,hi,rfl⟩:=(hid x).1 hx;omega
 · rw [hid,hst];exact ⟨fun _=>rfl,fun _=>⟨i,hi,rfl⟩⟩
def Za2 (m : Mem) : Nat → Mem
 | 0=>m
 | i + 1=>((Za2 m i).lock 0 i).1
theorem Zhy {m : Mem} (hm : m.mtx.length = 4) (h0 : ∀ i,i < 4 → m.held i = (false,0)) : ∀ i,i ≤ 4 → (Za2 m i).words = m.words ∧ (Za2 m i).mtx.length = 4 ∧ (Za2 m i).log.length = m.log.length + i ∧ (Za2 m i).viol = m.viol ∧ ∀ j,j < 4 → (Za2 m i).held j = if j < i then (true,0) else (false,0)
 | 0,_=>⟨rfl,hm,rfl,rfl,fun j hj=>by rw [if_neg (by omega)];exact h0 j hj⟩
 | i + 1,hi=>by
  obtain ⟨a1,a2,a3,a4,a5⟩:=Zhy hm h0 i (by omega)
  have hf : ((Za2 m i).held i).1 = false:=by rw [a5 i (by omega),if_neg (by omega)]
  have e : Za2 m (i + 1) = { (Za2 m i) with mtx:=(Za2 m i).mtx.set i (true,0),log:=(Za2 m i).log ++ [⟨0,5,i,0,1,true⟩] }:=by
   show ((Za2 m i).lock 0 i).1 = _
   unfold Mem.lock
   rw [hf,if_neg (by simp)]
  rw [e]
  refine ⟨a1,by simp [a2],by simp [a3];omega,a4,fun j hj=>?_⟩
  unfold Mem.held at a5 ⊢
  dsimp only
  rw [List.getElem?_set]
  by_cases c : i = j
  · subst c;rw [if_pos rfl,if_pos (by omega),if_pos (by omega)];rfl
  · rw [if_neg c,a5 j hj]
    by_cases d : j < i
    · rw [if_pos d,if_pos (by omega)]
    · rw [if_neg d,if_neg (by omega)]
theorem Zet (n : Nat) : ∀ i,i < 4 → (ZbX n).m.held i = (false,0):=fun i hi=>by
 show ((List.replicate 4 (false,(0 : Int)))[i]?).getD (false,0) = _
 rw [List.getElem?_replicate];split <;> rfl
def YN (n i : Nat) : Sto:={ ZbX n with m:=Za2 (ZbX n).m i }
theorem Zdp {n : Nat} (h : 1 ≤ n ∧ n ≤ 12) {i : Nat} (hi : i ≤ 4) : SB n (YN n i) [] (fun _=>False) 0 ∧ (∀ j,j < 4 → (YN n i).m.held j = if j < i then (true,0) else (false,0)) ∧ (YN n i).m.viol = 0:=by
 have hb:=Zl3 h
 obtain ⟨a1,a2,a3,a4,a5⟩:=Zhy hb.nm (Zet n) i hi
 have e0 : (ZbX n).m.log.length = 0:=rfl
 have e1 : (ZbX n).m.viol = 0:=rfl
 exact ⟨⟨hb.toSOk.same a1 a2,by show (Za2 (ZbX n).m i).log.length ≤ _;omega,by show 0 ≤ (Za2 (ZbX n).m i).viol ∧ (Za2 (ZbX n).m i).viol ≤ _;omega⟩,a5,by show (Za2 (ZbX n).m i).viol = 0;rw [a4,e1]⟩
theorem ZtV (n : Nat) (h : 1 ≤ n ∧ n ≤ 12) : LSpec Tryz.prog 65 [V.int n] [] 0 (.p 0 10 0 0) (ZE (YN n 4) 2) 5:=by
 refine lspec tab_ok mix Tryz.func65 (by kernel_rfl) (by rfl) (by rfl) (by rfl) (by rfl) ?_
 (refine go ?_; try exact tt)
 refine Za (Zk7 n ⟨h.1,by omega⟩) [] [] rfl (go ?_)
 refine Za (ZB (ZbX n)) [some 192,some 193,some 194,some 195,some 196] [] rfl (go ?_)
 have h0 : YN n 0 = ZbX n:=rfl
 refine Y3 tab_ok mix [3] [] (fun i : Nat=>[(3,.p 0 10 0 0),(4,V.int i)]) (fun i=>ZE (YN n i) 2) (fun i=>i ≤ 4) (fun i=>4 - i) [(0,192),(1,193),(2,194),(3,195),(4,196)] 0 rfl (by omega) (by rw [h0];(refine go ?_; try exact tt)) ?_
 rintro i hi
 obtain ⟨b1,b2,b3⟩:=Zdp h hi
 (refine go ?_; try exact tt)
 refine Zf (fun u=>?_) (fun u=>?_) <;> (refine go ?_; try exact tt)
 · have u' : i < 4:=by omega
   refine Za (ZB (YN n i)) [some 0,some 1,some 2,some 3,some 4] [] rfl (go ?_)
   have hl:=Zmw (YN n i).m 0 i (by rw [b1.nm];exact u') b1.fits.mem
   have hlt : ((YN n i).m.lock 0 i).2 = true:=by
    have e : (YN n i).m.held i = (false,0):=by rw [b2 i u',if_neg (by omega)]
    unfold Mem.lock
    rw [e];rfl
   have hnx : { YN n i with m:=((YN n i).m.lock 0 i).1 } = YN n (i + 1):=rfl
   rw [hlt] at hl
   refine Za hl [some 1,some 2,some 3,some 4] [] rfl (go ?_)
   refine .mk [(2,1152)] (i + 1) (by omega) (by omega) ?_
   rw [← hnx]
   (refine go ?_; try exact tt)
 · obtain rfl : i = 4:=by omega
   exact .mk [] (go tt)
structure Run where
 i : Nat
 s : Sto
 S : List Item
structure RunOk (n : Nat) (l : List OpS) (x : Run) : Prop where
 i : x.i ≤ l.length
 ok : SB n x.s x.S (fun _=>False) (4 * x.i)
 held : x.s.all4 0
 viol : x.s.m.viol = 0
def ZY (s : Sto) (a l : Nat) : List (Nat × B):=[(a,.rows 10 [ZrI s (a + 1)]),(a + 1,ZrF s.m l (a + 3) (a + 4)),(l,ZoF s.m),(a + 3,Zc1 s.m),(a + 4,Zs2 s.m)]
theorem ZjO {n : Nat} (h : 1 ≤ n ∧ n ≤ 12) (l : List OpS) : RunOk n l ⟨0,YN n 4,[]⟩:=by
 obtain ⟨b,a,v⟩:=Zdp h (i:=4) (by omega)
 exact ⟨Nat.zero_le _,b,fun i hi=>by rw [a i hi,if_pos hi],v⟩
theorem RunOk.next {n : Nat} {l : List OpS} {x : Run} (h : RunOk n l x) {o : OpS} {r : Int} {t : Sto} {T : List Item} (hi : x.i < l.length) (hs : StepR n o x.s (4 * x.i) r t T) : RunOk n l ⟨x.i + 1,t,T⟩:=
 ⟨hi,hs.ok,hs.held,by show t.m.viol = 0;rw [hs.viol];exact h.viol⟩
def Zti (c : Int) : Nat:=(c.tmod 12 + 1).toNat
theorem ZmW {c : Int} (h : 0 ≤ c) : c.tmod 12 + 1 = (Zti c : Int) ∧ 1 ≤ Zti c ∧ Zti c ≤ 12:=by
 have h1:=Int.tmod_nonneg (b:=12) h
 have h2:=(YB c 12 (by omega)).2
 unfold Zti
 omega
theorem Ztn {m : Nat} {row : List D} (h : Z5 tab (m + 1) 5 row) : ∃ x : Int,row = [.c (.int .u8 x)] ∧ 0 ≤ x ∧ x ≤ 255:=by
 obtain ⟨x,rfl,hw⟩ : ∃ x : Int,row = [.c (.int .u8 x)] ∧ (Lit.int .u8 x).wf = true:=h
 exact ⟨x,rfl,by simpa [Lit.wf,IntKind.min,IntKind.max,IntKind.signed,IntKind.bits] using hw⟩
theorem Zr8 {m : Nat} {row : List D} (h : Z5 tab (m + 1) 132 row) : ∃ x : Int,row = [.c (.int .u64 x)] ∧ 0 ≤ x ∧ x ≤ 18446744073709551615:=by
 obtain ⟨x,rfl,hw⟩ : ∃ x : Int,row = [.c (.int .u64 x)] ∧ (Lit.int .u64 x).wf = true:=h
 exact ⟨x,rfl,by simpa [Lit.wf,IntKind.min,IntKind.max,IntKind.signed,IntKind.bits] using hw⟩
theorem ZtX {m : Nat} {row : List D} (h : Z5 tab (m + 2) 134 row) : ∃ x : { o : OpS // o.Ok },row = x.1.row:=by
 have h : Zhp (Z5 tab (m + 1)) [(0,5),(1,132),(2,4)] row:=h
 obtain ⟨_,_,rfl,h1,_,_,rfl,h2,_,_,rfl,⟨c,rfl⟩,rfl⟩:=h
 obtain ⟨a,rfl,ha⟩:=Ztn h1
 obtain ⟨b,rfl,hb⟩:=Zr8 h2
 exact ⟨⟨⟨a,b,c⟩,ha,hb⟩,rfl⟩
theorem ZrR {m : Nat} {row : List D} (h : Z5 tab (m + 3) 22 row) : ∃ l : List OpS,(∀ o ∈ l,o.Ok) ∧ row = [.lst 3 (l.map OpS.row)]:=by
 obtain ⟨l,rfl⟩:=Zte (f:=fun x : { o : OpS // o.Ok }=>x.1.row) (sz:=3) rfl rfl (fun r hr=>ZtX hr) h
 refine ⟨l.map Subtype.val,fun o ho=>?_,by rw [List.map_map];rfl⟩
 obtain ⟨x,_,rfl⟩:=List.mem_map.1 ho
 exact x.2
theorem Ztr {p X Y : Prop} [Decidable p] {z : Bool} (hz : z = decide p) (h1 : ¬ p → X) (h2 : p → Y) : brK (!z) X Y:=by subst hz;exact Za3 h1 h2
end Go.Proofs.YtdjnjchpgccbiaaGreat.Abs
