/- The store's methods, the program's and the reference's, as functions of a store in order. -/
import Derived.Test.YtdjnjchpgccbiaaGreatJA
import Derived.Test.YtdjnjchpgccbiaaGreatHB
namespace Go.Proofs.YtdjnjchpgccbiaaGreat.Abs
open Go.Proofs
set_option maxRecDepth 10000
set_option linter.unusedSimpArgs false
set_option linter.unusedVariables false
abbrev ZtH (f g : FuncId) (args : List V) (s : Sto) (r : V) (t : Sto) : Prop:=
 LSpec Tryz.prog f args (ZE s 2) 5 r (ZE t 5) 6 ∧ LSpec Tryz.prog g args (Ye s 2) 5 r (Ye t 5) 6
abbrev Zsg (f g : FuncId) (args : List V) (s : Sto) (r : V) (t : Sto) : Prop:=
 LSpec Tryz.prog f args (ZE s 2) 5 r (ZE t 2) 5 ∧ LSpec Tryz.prog g args (Ye s 2) 5 r (Ye t 2) 5
def Sto.allocF (s : Sto) (th t : Int) : Sto × (Int × Bool):=
 match s.idle.reverse with
 | []=>(s.touch th [3],0,false)
 | x :: l=>((s.touch th [3]).alloc1 th t l.reverse x.toNat,64 * (s.m.word (x.toNat + 1) / 4) + x,true)
theorem Zaf {s : Sto} (h : s.idle = []) (th t : Int) : s.allocF th t = (s.touch th [3],0,false):=by
 unfold Sto.allocF;rw [h];rfl
theorem QM {s : Sto} {l : List Int} {i : Nat} (h : s.idle = l ++ [(i : Int)]) (th t : Int) : s.allocF th t = ((s.touch th [3]).alloc1 th t l i,64 * (s.m.word (i + 1) / 4) + i,true):=by
 unfold Sto.allocF
 rw [h,List.reverse_append,List.reverse_cons,List.reverse_nil,List.nil_append,List.singleton_append]
 dsimp only
 rw [List.reverse_reverse,Int.toNat_natCast]
theorem Zke (s : Sto) (th t : Int) (h : s.idle = []) (hf : s.m.Fits) (hm : 4 ≤ s.m.mtx.length) (ht : s.m.Thr) (h0 : 0 ≤ th) : LSpec Tryz.prog 107 [.p 0 10 0 0,V.int th,V.int t] (Ye s 2) 5 (.tup [V.int 0,V.bool false]) (Ye (s.touch th [3]) 5) 6:=by
 have hv:=hf.viol
 have hc:=YQ s th 3 (by omega) ht h0 ⟨hv.1,by omega⟩
 have hid : (s.touch th [3]).idle = []:=h
 generalize s.touch th [3] = s1 at *
 refine lspec tab_ok mix Tryz.func107 (by kernel_rfl) (by rfl) (by rfl) (by rfl) (by rfl) ?_
 (refine go ?_; try exact tt)
 refine Za hc [some 0,some 1,some 2,some 3,some 4] [] rfl (go ?_)
 rw [hid]
 (refine go ?_; try exact tt)
 exact .mk [(5,2)] (go tt)
theorem SOk.curOk {n : Nat} {s : Sto} {S : List Item} {A : Nat → Prop} {K : Nat} (h : SOk n s S A K) : Zn7 s.q:=fun r hr=>ZbO r (h.rungs.1 r hr)
theorem SOk.refFirst {n : Nat} {s : Sto} {S : List Item} {A : Nat → Prop} {K : Nat} (h : SOk n s S A K) : PSpec Tryz.prog 208 [s.q.v] (.tup [(ZH s.q).v,(Q8 S).v,V.bool (decide (S ≠ []))]) ∧ PSpec Tryz.prog 210 [s.q.v] (.tup [(ZaH s.q).1.v,(Q8 S).v,V.bool (decide (S ≠ []))]):=by
 obtain ⟨k,hk,hq⟩:=h.q
 have hb : k ≤ 100000:=by have:=h.kb;omega
 have e1:=(hq.first hb).1
 obtain ⟨e2,_,e3⟩:=hq.peek hb
 obtain ⟨a1,a2⟩:=hq.asks hb
 have p1 : PSpec Tryz.prog 208 [s.q.v] (.tup [(Yf s.q).1.v,(Yf s.q).2.1.v,V.bool (Yf s.q).2.2]):=ZiQ s.q.siz s.q a1
 have p2 : PSpec Tryz.prog 210 [s.q.v] (.tup [(ZaH s.q).1.v,(ZaH s.q).2.1.v,V.bool (ZaH s.q).2.2]):=Zqy s.q.siz s.q a1 a2
 rw [e2,e3,e1] at p1
 rw [e1] at p2
 exact ⟨p1,p2⟩
theorem SOk.refIns {n : Nat} {s : Sto} {S : List Item} {A : Nat → Prop} {K : Nat} (h : SOk n s S A K) {i : Nat} (ha : A i) : PSpec Tryz.prog 206 [s.q.v,(s.item i).v] ((Z6 s.q (s.item i)).v):=by
 obtain ⟨hi,hl⟩:=h.hand i ha
 obtain ⟨k,hk,hq⟩:=h.q
 have hne : ∀ x ∈ S,x.seq ≠ (s.item i).seq:=fun x hx e=>by
  obtain ⟨j,a1,a2,a3,a4⟩:=h.itm x hx
  subst a2
  have:=h.sq j i a1 hi a3 hl e
  subst this;exact a4 ha
 have hu:=hq.uq hne
 refine Zku s.q (s.item i) (ZmC hq.rel.good (hq.sz (by have:=h.kb;omega))) hq.rel.good.srt fun x hx=>hu x ?_
 refine (hq.rel.perm.mem_iff).2 ?_
 unfold Lad.items
 exact List.mem_append_right _ (List.mem_append_left _ hx)
theorem SB.alloc2 {n : Nat} {s : Sto} {S : List Item} {A : Nat → Prop} {K : Nat} (h : SB n s S A K) (ht : s.m.Thr) (th t : Int) (h0 : 0 ≤ th) :
 ZtH 140 107 [.p 0 10 0 0,V.int th,V.int t] s (.tup [V.int (s.allocF th t).2.1,V.bool (s.allocF th t).2.2]) (s.allocF th t).1:=by
 have hm : 4 ≤ s.m.mtx.length:=by rw [h.nm];exact Nat.le_refl _
 rcases h.last with hid | ⟨l,i,hid,hi,h1,_⟩
 · rw [Zaf hid]
   exact ⟨Zrc s th t hid h.fits hm,Zke s th t hid h.fits.mem hm ht h0⟩
 · rw [QM hid]
   have hn:=h.n12
   have hkb:=h.kb
   have hwd:=h.wd i hi
   have hg : 0 ≤ s.m.word (i + 1) / 4 ∧ s.m.word (i + 1) / 4 ≤ K:=⟨by omega,hwd.2⟩
   have hwl : i + 1 < s.m.words.length:=by rw [h.nw];omega
   exact ⟨ZsA s th t l i hid h.fits h.smallv hm (by rw [h.ns];exact hi) hwl (by omega) ⟨hg.1,by omega⟩,
    ZoK s th t l i hid h.fits h.smallv hm ht h0 (by rw [h.ns];exact hi) hwl (by omega) ⟨⟨hwd.1,by omega⟩,hg.1,by omega⟩⟩
theorem SB.free2 {n : Nat} {s : Sto} {S : List Item} {A : Nat → Prop} {K : Nat} (h : SB n s S A K) (ht : s.m.Thr) (th : Int) (h0 : 0 ≤ th) {i : Nat} (hi : i < n) :
 ZtH 89 99 [.p 0 10 0 0,V.int th,V.int i] s (.tup []) ((s.touch th [3]).free1 th i):=by
 have hm : 4 ≤ s.m.mtx.length:=by rw [h.nm];exact Nat.le_refl _
 have hkb:=h.kb
 have hwd:=h.wd i hi
 have hg : 0 ≤ s.m.word (i + 1) / 4 ∧ s.m.word (i + 1) / 4 ≤ K:=⟨by omega,hwd.2⟩
 have hwl : i + 1 < s.m.words.length:=by rw [h.nw];omega
 exact ⟨Zt5 s th i h.fits h.smallv hm (by rw [h.ns];exact hi) hwl ⟨hg.1,by omega⟩,Zq2 s th i h.fits h.smallv hm ht h0 (by rw [h.ns];exact hi) hwl ⟨⟨hwd.1,by omega⟩,hg.1,by omega⟩⟩
theorem SB.peek2 {n : Nat} {s : Sto} {S : List Item} {A : Nat → Prop} {K : Nat} (h : SB n s S A K) (ht : s.m.Thr) (th : Int) (h0 : 0 ≤ th) :
 ZtH 143 147 [.p 0 10 0 0,V.int th] s (.tup [(Q8 S).v,V.bool (decide (S ≠ []))]) (s.take th (ZH s.q)):=by
 have hm : 4 ≤ s.m.mtx.length:=by rw [h.nm];exact Nat.le_refl _
 exact ⟨Zsn s th h.firstP.1 h.fits h.smallv hm (by rw [h.nw];omega),ZpX s th h.refFirst.1 h.fits h.smallv hm ht h0 (by rw [h.nw];omega)⟩
theorem SB.drop2 {n : Nat} {s : Sto} {S : List Item} {A : Nat → Prop} {K : Nat} (h : SB n s S A K) (ht : s.m.Thr) (th : Int) (h0 : 0 ≤ th) :
 ZtH 144 148 [.p 0 10 0 0,V.int th] s (.tup []) (s.take th (ZaH s.q).1):=by
 have hm : 4 ≤ s.m.mtx.length:=by rw [h.nm];exact Nat.le_refl _
 exact ⟨ZsH s th h.firstP.2 h.fits h.smallv hm (by rw [h.nw];omega),Zqv s th h.refFirst.2 h.fits h.smallv hm ht h0 (by rw [h.nw];omega)⟩
theorem SB.put2 {n : Nat} {s : Sto} {S : List Item} {A : Nat → Prop} {K : Nat} (h : SB n s S A K) (ht : s.m.Thr) (th : Int) (h0 : 0 ≤ th) {i : Nat} (ha : A i) (hK : K + 1 ≤ 20000) :
 Zsg 142 146 [.p 0 10 0 0,V.int th,V.int i] s (.tup []) (s.put th i):=by
 have hm : 4 ≤ s.m.mtx.length:=by rw [h.nm];exact Nat.le_refl _
 obtain ⟨hi,hl⟩:=h.hand i ha
 obtain ⟨r1,r2⟩:=h.rungs
 exact ⟨ZtL s th i (by rw [h.ns];exact hi) h.fits h.smallv hm r1 r2 (h.toSOk.put th ha hK).2.1,ZsT s th i (by rw [h.ns];exact hi) h.fits h.smallv hm ht h0 h.curOk r2 (h.refIns ha)⟩
theorem Zko (s : Sto) (th t : Int) (hf : s.m.Fits) (hm : 4 ≤ s.m.mtx.length) (ht : s.m.Thr) (h0 : 0 ≤ th) (hc : Zn7 s.q) (hl : s.q.rungs.length < 1000000) :
 LSpec Tryz.prog 106 [.p 0 10 0 0,V.int th,V.int t] (Ye s 2) 5 (V.bool (s.accepts th t).2) (Ye (s.accepts th t).1 2) 5:=by
 have hv:=hf.viol
 have h1:=YQ s th 1 (by omega) ht h0 ⟨hv.1,by omega⟩
 have h2:=Zd7 (s.touch th [1]) t hc hl
 refine lspec tab_ok mix Tryz.func106 (by kernel_rfl) (by rfl) (by rfl) (by rfl) (by rfl) ?_
 (refine go ?_; try exact tt)
 refine Za h1 [some 0,some 1,some 2,some 3,some 4] [] rfl (go ?_)
 refine Za h2 [some 0,some 1,some 2,some 3,some 4] [] rfl (go ?_)
 exact .mk [] (go tt)
theorem SB.accepts2 {n : Nat} {s : Sto} {S : List Item} {A : Nat → Prop} {K : Nat} (h : SB n s S A K) (ht : s.m.Thr) (th t : Int) (h0 : 0 ≤ th) :
 Zsg 260 106 [.p 0 10 0 0,V.int th,V.int t] s (V.bool (s.accepts th t).2) (s.accepts th t).1:=by
 have hm : 4 ≤ s.m.mtx.length:=by rw [h.nm];exact Nat.le_refl _
 obtain ⟨r1,r2⟩:=h.rungs
 exact ⟨ZnW s th t h.fits hm r1 r2,Zko s th t h.fits.mem hm ht h0 h.curOk r2⟩
theorem SB.thr0 {n : Nat} {s : Sto} {S : List Item} {A : Nat → Prop} {K : Nat} (h : SB n s S A K) {th : Int} (h0 : 0 ≤ th) (hh : s.all4 th) : s.m.Thr:=by
 intro i hi
 by_cases c : i < 4
 · rw [hh i c];exact h0
 · unfold Mem.held at hi
   rw [List.getElem?_eq_none (by rw [h.nm];omega)] at hi
   simp at hi
abbrev ZaI (o : OpS) (n : Nat) (s : Sto) (r : Int) (t : Sto) : Prop:=
 LSpec Tryz.prog 68 [.p 0 10 0 0,o.v,V.int n] (ZE s 2) 5 (V.int r) (ZE t 5) 6 ∧
 LSpec Tryz.prog 69 [.p 0 10 0 0,o.v,V.int n] (Ye s 2) 5 (V.int r) (Ye t 5) 6
abbrev Q3 (n : Nat) (s t : Sto) : Prop:=∀ j,j < n → t.st j = 2 → s.st j = 2
set_option maxHeartbeats 1000000 in
theorem Zq6 {n : Nat} {s : Sto} {S : List Item} {K : Nat} (h : SB n s S (fun _=>False) K) (hK : K + 4 ≤ 20000) (hh : s.all4 0) (o : OpS) (ho : o.Ok) (hk : o.kind.tmod 5 = 4) :
 ∃ r t T,(ZaI o n s r t ∧ Q3 n s t) ∧ StepR n o s K r t T:=by
 obtain ⟨hp,hq⟩:=h.peek2 (h.thr0 (by decide) hh) 0 (by decide)
 obtain ⟨b1,b2,b3⟩:=h.take (by omega) hh (h.toSOk.peek 0)
 refine ⟨(Q8 S).seq,s.take 0 (ZH s.q),S,⟨⟨?_,?_⟩,fun j hj hx=>by rw [Zeh hh] at hx;rwa [(QQ (s:=s) (th:=0) (q:=ZH s.q) (by rw [h.nw];omega) j).1] at hx⟩,b1.mono (by omega) hK,b2,b3,fun j hj=>?_,fun hx=>by omega⟩
 · refine lspec tab_ok mix Tryz.func68 (by kernel_rfl) (by rfl) (by rfl) (by rfl) (by rfl) ?_
   (refine go ?_; try exact tt)
   rw [hk]
   (refine go ?_; try exact tt)
   refine Za hp [some 0,some 1,some 2,some 3,some 4] [] rfl (go ?_)
   refine .mk [(5,960)] (go ?_);try exact tt
 · refine lspec tab_ok mix Tryz.func69 (by kernel_rfl) (by rfl) (by rfl) (by rfl) (by rfl) ?_
   (refine go ?_; try exact tt)
   rw [hk]
   (refine go ?_; try exact tt)
   refine Za hq [some 0,some 1,some 2,some 3,some 4] [] rfl (go ?_)
   refine .mk [(5,960)] (go ?_);try exact tt
 · rw [Zeh hh]
   obtain ⟨e1,e2⟩:=QQ (s:=s) (th:=0) (q:=ZH s.q) (by rw [h.nw];omega) j
   rw [e1,e2]
   exact ⟨Int.le_refl _,fun x=>.inl x⟩
set_option maxHeartbeats 1000000 in
theorem Zrw {n : Nat} {s : Sto} {S : List Item} {K : Nat} (h : SB n s S (fun _=>False) K) (o : OpS) (ho : o.Ok) (hk : o.kind.tmod 5 = 3) {i : Nat} (hi : o.at'.tmod (n : Int) = (i : Int)) (hin : i < n) :
 LSpec Tryz.prog 69 [.p 0 10 0 0,o.v,V.int n] (Ye s 2) 5 (V.int (ZoP (s.m.cas 0 (i + 1) (4 * (s.m.word (i + 1) / 4) + 1) (4 * (s.m.word (i + 1) / 4) + 3)).2))
  (Ye { s with m:=(s.m.cas 0 (i + 1) (4 * (s.m.word (i + 1) / 4) + 1) (4 * (s.m.word (i + 1) / 4) + 3)).1 } 5) 6:=by
 have hn:=h.n12
 have hat:=ho.at'
 have hwl : i + 1 < s.m.words.length:=by rw [h.nw];omega
 have hwd:=h.wd i hin
 have hgn : 0 ≤ s.m.word (i + 1) / 4 ∧ s.m.word (i + 1) / 4 ≤ K:=⟨by have:=hwd.1;omega,hwd.2⟩
 have hkb:=h.kb
 have hwl2:=h.fits.mem.words
 have hc:=Zs3 s.m 0 (i + 1) (4 * (s.m.word (i + 1) / 4) + 1) (4 * (s.m.word (i + 1) / 4) + 3) hwl h.fits.mem
 generalize s.m.cas 0 (i + 1) (4 * (s.m.word (i + 1) / 4) + 1) (4 * (s.m.word (i + 1) / 4) + 3) = r at *
 obtain ⟨m',ok⟩:=r
 dsimp only at hc ⊢
 have g1 : 0 ≤ s.m.word (i + 1) ∧ s.m.word (i + 1) ≤ 9223372036854775807:=⟨hwd.1,by omega⟩
 cases ok with
 | true=>
  refine lspec tab_ok mix Tryz.func69 (by kernel_rfl) (by rfl) (by rfl) (by rfl) (by rfl) ?_
  (refine go ?_; try exact tt)
  rw [hk]
  (refine go ?_; try exact tt)
  refine Ztu (by omega) (go ?_)
  rw [hi]
  rw [show (1 + (i : Int)) = ((i + 1 : Nat) : Int) by omega]
  refine atB hwl (go ?_)
  refine Yy (Mem.word_get hwl) (go ?_)
  refine Zn (ZeG (s.m.word (i + 1)) g1) (go ?_)
  refine Zn (Zby (s.m.word (i + 1) / 4) 1 ⟨⟨hgn.1,by omega⟩,by omega⟩) (go ?_)
  refine Zn (ZeG (s.m.word (i + 1)) g1) (go ?_)
  refine Zn (Zby (s.m.word (i + 1) / 4) 3 ⟨⟨hgn.1,by omega⟩,by omega⟩) (go ?_)
  rw [show (1 + (i : Int)) = ((i + 1 : Nat) : Int) by omega]
  refine Zu hc [some 1,some 2,some 3,some 4] [] (go ?_)
  exact .mk [(5,2944)] (go tt)
 | false=>
  refine lspec tab_ok mix Tryz.func69 (by kernel_rfl) (by rfl) (by rfl) (by rfl) (by rfl) ?_
  (refine go ?_; try exact tt)
  rw [hk]
  (refine go ?_; try exact tt)
  refine Ztu (by omega) (go ?_)
  rw [hi]
  rw [show (1 + (i : Int)) = ((i + 1 : Nat) : Int) by omega]
  refine atB hwl (go ?_)
  refine Yy (Mem.word_get hwl) (go ?_)
  refine Zn (ZeG (s.m.word (i + 1)) g1) (go ?_)
  refine Zn (Zby (s.m.word (i + 1) / 4) 1 ⟨⟨hgn.1,by omega⟩,by omega⟩) (go ?_)
  refine Zn (ZeG (s.m.word (i + 1)) g1) (go ?_)
  refine Zn (Zby (s.m.word (i + 1) / 4) 3 ⟨⟨hgn.1,by omega⟩,by omega⟩) (go ?_)
  rw [show (1 + (i : Int)) = ((i + 1 : Nat) : Int) by omega]
  refine Zu hc [some 1,some 2,some 3,some 4] [] (go ?_)
  exact .mk [(5,2944)] (go tt)
set_option maxHeartbeats 1000000 in
theorem ZqB {n : Nat} {s : Sto} {S : List Item} {K : Nat} (h : SB n s S (fun _=>False) K) (o : OpS) (ho : o.Ok) (hk : o.kind.tmod 5 = 3) {i : Nat} (hi : o.at'.tmod (n : Int) = (i : Int)) (hin : i < n) :
 LSpec Tryz.prog 68 [.p 0 10 0 0,o.v,V.int n] (ZE s 2) 5 (V.int (ZoP (s.m.cas 0 (i + 1) (4 * (s.m.word (i + 1) / 4) + 1) (4 * (s.m.word (i + 1) / 4) + 3)).2))
  (ZE { s with m:=(s.m.cas 0 (i + 1) (4 * (s.m.word (i + 1) / 4) + 1) (4 * (s.m.word (i + 1) / 4) + 3)).1 } 5) 6:=by
 have hn:=h.n12
 have hat:=ho.at'
 have hwl : i + 1 < s.m.words.length:=by rw [h.nw];omega
 have hwd:=h.wd i hin
 have hgn : 0 ≤ s.m.word (i + 1) / 4 ∧ s.m.word (i + 1) / 4 ≤ K:=⟨by have:=hwd.1;omega,hwd.2⟩
 have hkb:=h.kb
 have hc:=Zuj s.m 0 (i + 1) (4 * (s.m.word (i + 1) / 4) + 1) (4 * (s.m.word (i + 1) / 4) + 3) hwl h.fits.mem
 have hc2 : (s.m.cas 0 (i + 1) (4 * (s.m.word (i + 1) / 4) + 1) (4 * (s.m.word (i + 1) / 4) + 3)).2 = decide (s.m.word (i + 1) = 4 * (s.m.word (i + 1) / 4) + 1):=by
  unfold Mem.cas
  by_cases e : s.m.word (i + 1) = 4 * (s.m.word (i + 1) / 4) + 1
  · rw [if_pos e,decide_eq_true e]
  · rw [if_neg e,decide_eq_false e]
 rw [← hc2] at hc
 clear hc2
 generalize s.m.cas 0 (i + 1) (4 * (s.m.word (i + 1) / 4) + 1) (4 * (s.m.word (i + 1) / 4) + 3) = r at *
 obtain ⟨m',ok⟩:=r
 dsimp only at hc ⊢
 cases ok with
 | true=>
  refine lspec tab_ok mix Tryz.func68 (by kernel_rfl) (by rfl) (by rfl) (by rfl) (by rfl) ?_
  (refine go ?_; try exact tt)
  rw [hk]
  (refine go ?_; try exact tt)
  refine Ztu (by omega) (go ?_)
  rw [hi]
  refine Za (ZB s) [some 0,some 1,some 2,some 3,some 4] [] rfl (go ?_)
  rw [show (1 + (i : Int)) = ((i + 1 : Nat) : Int) by omega]
  refine Za (ZhD s.m (i + 1) hwl h.fits.mem) [some 1,some 2,some 3,some 4] [] rfl (go ?_)
  refine Za (ZB s) [some 0,some 1,some 2,some 3,some 4] [] rfl (go ?_)
  refine Zh (ZeG (s.m.word (i + 1)) (by omega)) (go ?_)
  refine Zh (Zby (s.m.word (i + 1) / 4) 1 ⟨⟨hgn.1,by omega⟩,by omega⟩) (go ?_)
  refine Zh (ZeG (s.m.word (i + 1)) (by omega)) (go ?_)
  refine Zh (Zby (s.m.word (i + 1) / 4) 3 ⟨⟨hgn.1,by omega⟩,by omega⟩) (go ?_)
  rw [show (1 + (i : Int)) = ((i + 1 : Nat) : Int) by omega]
  refine Za hc [some 1,some 2,some 3,some 4] [] rfl (go ?_)
  exact .mk [(5,2368)] (go tt)
 | false=>
  refine lspec tab_ok mix Tryz.func68 (by kernel_rfl) (by rfl) (by rfl) (by rfl) (by rfl) ?_
  (refine go ?_; try exact tt)
  rw [hk]
  (refine go ?_; try exact tt)
  refine Ztu (by omega) (go ?_)
  rw [hi]
  refine Za (ZB s) [some 0,some 1,some 2,some 3,some 4] [] rfl (go ?_)
  rw [show (1 + (i : Int)) = ((i + 1 : Nat) : Int) by omega]
  refine Za (ZhD s.m (i + 1) hwl h.fits.mem) [some 1,some 2,some 3,some 4] [] rfl (go ?_)
  refine Za (ZB s) [some 0,some 1,some 2,some 3,some 4] [] rfl (go ?_)
  refine Zh (ZeG (s.m.word (i + 1)) (by omega)) (go ?_)
  refine Zh (Zby (s.m.word (i + 1) / 4) 1 ⟨⟨hgn.1,by omega⟩,by omega⟩) (go ?_)
  refine Zh (ZeG (s.m.word (i + 1)) (by omega)) (go ?_)
  refine Zh (Zby (s.m.word (i + 1) / 4) 3 ⟨⟨hgn.1,by omega⟩,by omega⟩) (go ?_)
  rw [show (1 + (i : Int)) = ((i + 1 : Nat) : Int) by omega]
  refine Za hc [some 1,some 2,some 3,some 4] [] rfl (go ?_)
  exact .mk [(5,2368)] (go tt)
theorem Zq5 {n : Nat} {s : Sto} {S : List Item} {K : Nat} (h : SB n s S (fun _=>False) K) (hK : K + 4 ≤ 20000) (hh : s.all4 0) (o : OpS) (ho : o.Ok) (hk : o.kind.tmod 5 = 3) :
 ∃ r t T,(ZaI o n s r t ∧ Q3 n s t) ∧ StepR n o s K r t T:=by
 have hn:=h.n12
 have hat:=ho.at'
 obtain ⟨i,hi,hin⟩ : ∃ i : Nat,o.at'.tmod (n : Int) = (i : Int) ∧ i < n:=by
  have h1:=Int.tmod_nonneg (b:=(n : Int)) hat.1
  have h2:=(YB o.at' n (by omega)).2
  exact ⟨(o.at'.tmod n).toNat,by omega,by omega⟩
 have c1:=ZqB h o ho hk hi hin
 have c2:=Zrw h o ho hk hi hin
 have hwl : i + 1 < s.m.words.length:=by rw [h.nw];omega
 have hwd:=h.wd i hin
 have hkb:=h.kb
 refine ⟨_,_,S,⟨⟨c1,c2⟩,?_⟩,?_⟩
 · clear c1 c2
   intro j hj hx
   by_cases e : s.m.word (i + 1) = 4 * (s.m.word (i + 1) / 4) + 1
   · have e1 : s.m.cas 0 (i + 1) (4 * (s.m.word (i + 1) / 4) + 1) (4 * (s.m.word (i + 1) / 4) + 3) = (s.m.put 0 3 (i + 1) (4 * (s.m.word (i + 1) / 4) + 3) true,true):=by unfold Mem.cas;rw [if_pos e]
     rw [e1] at hx
     rw [(ZbY hwl 0 3 true (v:=4 * (s.m.word (i + 1) / 4) + 3) (by unfold Sto.gn;omega) j).2] at hx
     split at hx
     · omega
     · exact hx
   · have e1 : s.m.cas 0 (i + 1) (4 * (s.m.word (i + 1) / 4) + 1) (4 * (s.m.word (i + 1) / 4) + 3) = (s.m.put 0 3 (i + 1) (s.m.word (i + 1)) false,false):=by unfold Mem.cas;rw [if_neg e]
     rw [e1] at hx
     have hps:=ZV s.m 0 3 (i + 1) false hwl
     unfold Sto.st at hx ⊢
     dsimp only at hx
     rw [show Mem.word (s.m.put 0 3 (i + 1) (s.m.word (i + 1)) false) (j + 1) = s.m.word (j + 1) by unfold Mem.word at hps ⊢;rw [hps]] at hx
     exact hx
 clear c1 c2
 by_cases e : s.m.word (i + 1) = 4 * (s.m.word (i + 1) / 4) + 1
 · have e1 : s.m.cas 0 (i + 1) (4 * (s.m.word (i + 1) / 4) + 1) (4 * (s.m.word (i + 1) / 4) + 3) = (s.m.put 0 3 (i + 1) (4 * (s.m.word (i + 1) / 4) + 3) true,true):=by unfold Mem.cas;rw [if_pos e]
   rw [e1]
   have hlive : s.st i ≠ 0:=by unfold Sto.st;omega
   have hm:=h.toSOk.mark hin hlive 0 3 true (v:=4 * (s.m.word (i + 1) / 4) + 3) (by unfold Sto.gn;omega) (by omega)
   refine ⟨⟨hm.mono (by omega) hK,?_,?_⟩,hh,rfl,fun j hj=>?_,fun hx=>by omega⟩
   · have:=h.log;simp [Mem.put];omega
   · have:=h.viol;show 0 ≤ s.m.viol ∧ s.m.viol ≤ _;omega
   · obtain ⟨m1,m2⟩:=ZbY hwl 0 3 true (v:=4 * (s.m.word (i + 1) / 4) + 3) (by unfold Sto.gn;omega) j
     rw [m1,m2]
     refine ⟨Int.le_refl _,fun x=>.inl ?_⟩
     split
     · omega
     · exact x
 · have e1 : s.m.cas 0 (i + 1) (4 * (s.m.word (i + 1) / 4) + 1) (4 * (s.m.word (i + 1) / 4) + 3) = (s.m.put 0 3 (i + 1) (s.m.word (i + 1)) false,false):=by unfold Mem.cas;rw [if_neg e]
   rw [e1]
   have hps:=ZV s.m 0 3 (i + 1) false hwl
   have hm:=h.toSOk.same (m:=s.m.put 0 3 (i + 1) (s.m.word (i + 1)) false) hps h.nm
   refine ⟨⟨hm.mono (by omega) hK,?_,?_⟩,hh,rfl,fun j hj=>?_,fun hx=>by omega⟩
   · have:=h.log;simp [Mem.put];omega
   · have:=h.viol;show 0 ≤ s.m.viol ∧ s.m.viol ≤ _;omega
   · have e2 : ∀ k,Mem.word (s.m.put 0 3 (i + 1) (s.m.word (i + 1)) false) k = s.m.word k:=fun k=>by unfold Mem.word at hps ⊢;rw [hps]
     unfold Sto.gn Sto.st
     dsimp only
     rw [e2]
     exact ⟨Int.le_refl _,fun x=>.inl x⟩
set_option maxHeartbeats 2000000 in
theorem ZqH {n : Nat} {s : Sto} {S : List Item} {K : Nat} (h : SB n s S (fun _=>False) K) (hK : K + 4 ≤ 20000) (hh : s.all4 0) (o : OpS) (ho : o.Ok) (hk : o.kind.tmod 5 = 2) :
 ∃ r t T,(ZaI o n s r t ∧ Q3 n s t) ∧ StepR n o s K r t T:=by
 obtain ⟨hp,hp'⟩:=h.peek2 (h.thr0 (by decide) hh) 0 (by decide)
 obtain ⟨b1,b2,b3⟩:=h.take (by omega) hh (h.toSOk.peek 0)
 have hw0 : 0 < s.m.words.length:=by rw [h.nw];omega
 have rw1 : ∀ j,(s.take 0 (ZH s.q)).st j = s.st j ∧ (s.take 0 (ZH s.q)).gn j = s.gn j:=fun j=>by rw [Zeh hh];exact QQ hw0 j
 generalize s.take 0 (ZH s.q) = s1 at *
 cases S with
 | nil=>
  refine ⟨-1,s1,[],⟨⟨?_,?_⟩,fun j hj hx=>by rwa [(rw1 j).1] at hx⟩,b1.mono (by omega) hK,b2,b3,fun j hj=>?_,fun hx=>by omega⟩
  · refine lspec tab_ok mix Tryz.func68 (by kernel_rfl) (by rfl) (by rfl) (by rfl) (by rfl) ?_
    (refine go ?_; try exact tt)
    rw [hk]
    (refine go ?_; try exact tt)
    refine Za hp [some 0,some 1,some 2,some 3,some 4] [] rfl (go ?_)
    refine .mk [(5,832)] (go ?_);try exact tt
  · refine lspec tab_ok mix Tryz.func69 (by kernel_rfl) (by rfl) (by rfl) (by rfl) (by rfl) ?_
    (refine go ?_; try exact tt)
    rw [hk]
    (refine go ?_; try exact tt)
    refine Za hp' [some 0,some 1,some 2,some 3,some 4] [] rfl (go ?_)
    refine .mk [(5,832)] (go ?_);try exact tt
  · rw [(rw1 j).1,(rw1 j).2];exact ⟨Int.le_refl _,fun x=>.inl x⟩
 | cons x T=>
  obtain ⟨hd,hd'⟩:=b1.drop2 (b1.thr0 (by decide) b2) 0 (by decide)
  obtain ⟨i,hi,hxi,hl,_,ht⟩:=b1.toSOk.drop 0
  obtain ⟨c1,c2,c3⟩:=b1.take (by omega) b2 ht
  have rw2 : ∀ j,(s1.take 0 (ZaH s1.q).1).st j = s1.st j ∧ (s1.take 0 (ZaH s1.q).1).gn j = s1.gn j:=fun j=>by rw [Zeh b2];exact QQ (by rw [b1.nw];omega) j
  have hx : (Q8 (x :: T)).slot = i:=by show x.slot = i;rw [hxi];rfl
  generalize s1.take 0 (ZaH s1.q).1 = s2 at *
  obtain ⟨hf,hf'⟩:=c1.free2 (c1.thr0 (by decide) c2) 0 (by decide) hi
  rw [Sto.touch_id (th:=0) (l:=[3]) (fun j hj=>c2 j (by simp at hj;omega))] at hf hf'
  obtain ⟨d1,d2,d3⟩:=ht.free 0 (i:=i) (.inr rfl) (by omega)
  rw [show (fun j=>(False ∨ j = i) ∧ j ≠ i) = fun _=>False from funext fun j=>propext ⟨fun x=>x.2 (x.1.resolve_left id),False.elim⟩] at d1
  have hwl : i + 1 < s2.m.words.length:=by rw [c1.nw];omega
  refine ⟨x.time,s2.free1 0 i,T,⟨⟨?_,?_⟩,fun j hj hx=>by
   rw [(Zen hwl 0 (c1.wd i hi).1 j).2] at hx
   split at hx
   · omega
   · rwa [(rw2 j).1,(rw1 j).1] at hx⟩,⟨d1.mono (by omega) hK,?_,?_⟩,c2,by show s2.m.viol = _;rw [c3,b3],fun j hj=>?_,fun hx=>by omega⟩
  · refine lspec tab_ok mix Tryz.func68 (by kernel_rfl) (by rfl) (by rfl) (by rfl) (by rfl) ?_
    (refine go ?_; try exact tt)
    rw [hk]
    (refine go ?_; try exact tt)
    refine Za hp [some 0,some 1,some 2,some 3,some 4] [] rfl (go ?_)
    rw [hx]
    (refine go ?_; try exact tt)
    rw [show decide ((i : Int) < 0) = false from decide_eq_false (by omega)]
    (refine go ?_; try exact tt)
    rw [show decide ((n : Int) ≤ i) = false from decide_eq_false (by omega)]
    (refine go ?_; try exact tt)
    refine Za hd [some 0,some 1,some 832,some 3,some 4] [] rfl (go ?_)
    refine Za hf [some 0,some 1,some 2176,some 3,some 4] [] rfl (go ?_)
    refine .mk [(5,2432)] (go ?_);try exact tt
  · refine lspec tab_ok mix Tryz.func69 (by kernel_rfl) (by rfl) (by rfl) (by rfl) (by rfl) ?_
    (refine go ?_; try exact tt)
    rw [hk]
    (refine go ?_; try exact tt)
    refine Za hp' [some 0,some 1,some 2,some 3,some 4] [] rfl (go ?_)
    rw [hx]
    refine Za hd' [some 0,some 1,some 832,some 3,some 4] [] rfl (go ?_)
    refine Za hf' [some 0,some 1,some 1472,some 3,some 4] [] rfl (go ?_)
    refine .mk [(5,1728)] (go ?_);try exact tt
  · have:=c1.log;simp [Sto.free1,Mem.store,Mem.put];omega
  · have:=c1.viol;show 0 ≤ s2.m.viol ∧ s2.m.viol ≤ _;push_cast;omega
  · obtain ⟨f1,f2⟩:=Zen hwl 0 (c1.wd i hi).1 j
    rw [f1,f2,(rw2 j).1,(rw2 j).2,(rw1 j).1,(rw1 j).2]
    by_cases c : j = i
    · rw [if_pos c,if_pos c];exact ⟨by omega,fun _=>.inr (by omega)⟩
    · rw [if_neg c,if_neg c];exact ⟨Int.le_refl _,fun x=>.inl x⟩
set_option maxHeartbeats 2000000 in
theorem ZrC {n : Nat} {s : Sto} {S : List Item} {K : Nat} (h : SB n s S (fun _=>False) K) (hK : K + 4 ≤ 20000) (hh : s.all4 0) (o : OpS) (ho : o.Ok) (hk : o.kind.tmod 5 = 0 ∨ o.kind.tmod 5 = 1) {l : List Int} {i : Nat} (hid : s.idle = l ++ [(i : Int)]) (hi : i < n) (h0 : s.st i = 0) :
 (ZaI o n s (64 * (s.m.word (i + 1) / 4) + i) { s.alloc1 0 o.time l i with q:=Z6 s.q ((s.alloc1 0 o.time l i).item i) } ∧ Q3 n s { s.alloc1 0 o.time l i with q:=Z6 s.q ((s.alloc1 0 o.time l i).item i) }) ∧ ∃ T,StepR n o s K (64 * (s.m.word (i + 1) / 4) + i) { s.alloc1 0 o.time l i with q:=Z6 s.q ((s.alloc1 0 o.time l i).item i) } T:=by
 have htm:=Zpx o ho
 have hto:=OpS.time_ok ho
 have h3 : s.touch 0 [3] = s:=Sto.touch_id (th:=0) (l:=[3]) (fun j hj=>hh j (by simp at hj;omega))
 obtain ⟨ha,ha'⟩:=h.alloc2 (h.thr0 (by decide) hh) 0 o.time (by decide)
 rw [show Z6 s.q ((s.alloc1 0 o.time l i).item i) = Z6 (s.alloc1 0 o.time l i).q ((s.alloc1 0 o.time l i).item i) from rfl]
 rw [QM hid,h3] at ha ha'
 dsimp only at ha ha'
 have hn:=h.n12
 have hkb:=h.kb
 have hwd:=h.wd i hi
 have hg : 0 ≤ s.m.word (i + 1) / 4 ∧ s.m.word (i + 1) / 4 ≤ K:=⟨by omega,hwd.2⟩
 have hwl : i + 1 < s.m.words.length:=by rw [h.nw];omega
 obtain ⟨a1,a2,a3,a4⟩:=h.toSOk.alloc 0 o.time hto hid hi (by omega)
 have hw1:=ZeO hwl 0 o.time l hwd.1
 have hs1 : SB n (s.alloc1 0 o.time l i) S (fun j=>False ∨ j = i) (K + 1):=⟨a1,by have:=h.log;simp [Sto.alloc1,Mem.store,Mem.put];omega,by have:=h.viol;show 0 ≤ s.m.viol ∧ s.m.viol ≤ _;push_cast;omega⟩
 have hh1 : (s.alloc1 0 o.time l i).all4 0:=hh
 have hv1 : (s.alloc1 0 o.time l i).m.viol = s.m.viol:=rfl
 generalize s.alloc1 0 o.time l i = s1 at *
 obtain ⟨p1,p2,_⟩:=hs1.toSOk.put 0 (i:=i) (.inr rfl) (by omega)
 obtain ⟨hp,hp'⟩:=hs1.put2 (hs1.thr0 (by decide) hh1) 0 (by decide) (i:=i) (.inr rfl) (by omega)
 have hpl : ∀ j ∈ s1.putL (s1.slot i).time,j < 4:=fun j hj=>by
  unfold Sto.putL at hj
  split at hj
  · simp at hj;omega
  · split at hj <;> simp at hj <;> omega
 have hpt : s1.put 0 i = { s1 with q:=Z6 s1.q (s1.item i) }:=by
  unfold Sto.put
  rw [Sto.touch_id (th:=0) fun j hj=>hh1 j (hpl j hj)]
 rw [hpt] at hp hp' p1
 rw [show (fun j=>(False ∨ j = i) ∧ j ≠ i) = fun _=>False from funext fun j=>propext ⟨fun x=>x.2 (x.1.resolve_left id),False.elim⟩] at p1
 have hsl : ZM (64 * (s.m.word (i + 1) / 4) + i) = i:=by
  unfold ZM
  rw [if_pos ⟨by omega,by omega⟩];omega
 have hne : s.idle ≠ []:=by rw [hid];simp
 have hmod : ((i : Int)).tmod n = i:=by rw [Int.tmod_eq_emod_of_nonneg (by omega)];exact Int.emod_eq_of_lt (by omega) (by omega)
 refine ⟨⟨⟨?_,?_⟩,fun j hj hx=>by
  have hx : s1.st j = 2:=hx
  rw [(hw1 j).2] at hx
  split at hx
  · omega
  · exact hx⟩,_,⟨p1.mono (by omega) hK,by have:=hs1.log;show s1.m.log.length ≤ _;omega,by have:=hs1.viol;show 0 ≤ s1.m.viol ∧ s1.m.viol ≤ _;push_cast at *;omega⟩,hh1,hv1,fun j hj=>?_,fun _=>.inr ⟨i,hi,h0,hne,rfl,a3,a4⟩⟩
 · rcases hk with hk | hk
   · refine lspec tab_ok mix Tryz.func68 (by kernel_rfl) (by rfl) (by rfl) (by rfl) (by rfl) ?_
     (refine go ?_; try exact tt)
     rw [hk]
     (refine go ?_; try exact tt)
     refine Zh htm (go ?_)
     refine Za ha [some 0,some 1,some 2,some 3,some 4] [] rfl (go ?_)
     refine Zh (Zjv (64 * (s.m.word (i + 1) / 4) + i)) ?_
     rw [hsl]
     (refine go ?_; try exact tt)
     rw [hmod]
     (refine go ?_; try exact tt)
     refine Za hp [some 0,some 1,some 704,some 3,some 4] [] rfl (go ?_)
     refine .mk [(5,704)] (go ?_);try exact tt
   · refine lspec tab_ok mix Tryz.func68 (by kernel_rfl) (by rfl) (by rfl) (by rfl) (by rfl) ?_
     (refine go ?_; try exact tt)
     rw [hk]
     (refine go ?_; try exact tt)
     refine Zh htm (go ?_)
     refine Za ha [some 0,some 1,some 2,some 3,some 4] [] rfl (go ?_)
     refine Zh (Zjv (64 * (s.m.word (i + 1) / 4) + i)) ?_
     rw [hsl]
     (refine go ?_; try exact tt)
     rw [hmod]
     (refine go ?_; try exact tt)
     refine Za hp [some 0,some 1,some 832,some 3,some 4] [] rfl (go ?_)
     refine .mk [(5,832)] (go ?_);try exact tt
 · rcases hk with hk | hk
   · refine lspec tab_ok mix Tryz.func69 (by kernel_rfl) (by rfl) (by rfl) (by rfl) (by rfl) ?_
     (refine go ?_; try exact tt)
     rw [hk]
     (refine go ?_; try exact tt)
     refine Zh htm (go ?_)
     refine Za ha' [some 0,some 1,some 2,some 3,some 4] [] rfl (go ?_)
     refine Zh (Zjv (64 * (s.m.word (i + 1) / 4) + i)) ?_
     rw [hsl]
     (refine go ?_; try exact tt)
     rw [hmod]
     (refine go ?_; try exact tt)
     refine Za hp' [some 0,some 1,some 704,some 3,some 4] [] rfl (go ?_)
     refine .mk [(5,704)] (go ?_);try exact tt
   · refine lspec tab_ok mix Tryz.func69 (by kernel_rfl) (by rfl) (by rfl) (by rfl) (by rfl) ?_
     (refine go ?_; try exact tt)
     rw [hk]
     (refine go ?_; try exact tt)
     refine Zh htm (go ?_)
     refine Za ha' [some 0,some 1,some 2,some 3,some 4] [] rfl (go ?_)
     refine Zh (Zjv (64 * (s.m.word (i + 1) / 4) + i)) ?_
     rw [hsl]
     (refine go ?_; try exact tt)
     rw [hmod]
     (refine go ?_; try exact tt)
     refine Za hp' [some 0,some 1,some 832,some 3,some 4] [] rfl (go ?_)
     refine .mk [(5,832)] (go ?_);try exact tt
 · show s.gn j ≤ s1.gn j ∧ (s.st j ≠ 0 → s1.st j ≠ 0 ∨ s.gn j < s1.gn j)
   rw [(hw1 j).1,(hw1 j).2]
   refine ⟨Int.le_refl _,fun x=>.inl ?_⟩
   split
   · omega
   · exact x
set_option maxHeartbeats 2000000 in
theorem Zk0 {n : Nat} {s : Sto} {S : List Item} {K : Nat} (h : SB n s S (fun _=>False) K) (hK : K + 4 ≤ 20000) (hh : s.all4 0) (o : OpS) (ho : o.Ok) (hk : o.kind.tmod 5 = 0 ∨ o.kind.tmod 5 = 1) :
 ∃ r t T,(ZaI o n s r t ∧ Q3 n s t) ∧ StepR n o s K r t T:=by
 have htm:=Zpx o ho
 have hto:=OpS.time_ok ho
 have h3 : s.touch 0 [3] = s:=Sto.touch_id (th:=0) (l:=[3]) (fun j hj=>hh j (by simp at hj;omega))
 obtain ⟨ha,ha'⟩:=h.alloc2 (h.thr0 (by decide) hh) 0 o.time (by decide)
 rcases h.last with hid | ⟨l,i,hid,hi,h0,_⟩
 · rw [Zaf hid,h3] at ha ha'
   dsimp only at ha ha'
   refine ⟨-1,s,S,⟨⟨?_,?_⟩,fun j hj hx=>hx⟩,h.mono (by omega) hK,hh,rfl,fun j hj=>⟨Int.le_refl _,fun x=>.inl x⟩,fun _=>.inl ⟨rfl,hid⟩⟩
   · rcases hk with hk | hk
     · refine lspec tab_ok mix Tryz.func68 (by kernel_rfl) (by rfl) (by rfl) (by rfl) (by rfl) ?_
       (refine go ?_; try exact tt)
       rw [hk]
       (refine go ?_; try exact tt)
       refine Zh htm (go ?_)
       refine Za ha [some 0,some 1,some 2,some 3,some 4] [] rfl (go ?_)
       refine .mk [(5,704)] (go ?_);try exact tt
     · refine lspec tab_ok mix Tryz.func68 (by kernel_rfl) (by rfl) (by rfl) (by rfl) (by rfl) ?_
       (refine go ?_; try exact tt)
       rw [hk]
       (refine go ?_; try exact tt)
       refine Zh htm (go ?_)
       refine Za ha [some 0,some 1,some 2,some 3,some 4] [] rfl (go ?_)
       refine .mk [(5,832)] (go ?_);try exact tt
   · rcases hk with hk | hk
     · refine lspec tab_ok mix Tryz.func69 (by kernel_rfl) (by rfl) (by rfl) (by rfl) (by rfl) ?_
       (refine go ?_; try exact tt)
       rw [hk]
       (refine go ?_; try exact tt)
       refine Zh htm (go ?_)
       refine Za ha' [some 0,some 1,some 2,some 3,some 4] [] rfl (go ?_)
       refine .mk [(5,704)] (go ?_);try exact tt
     · refine lspec tab_ok mix Tryz.func69 (by kernel_rfl) (by rfl) (by rfl) (by rfl) (by rfl) ?_
       (refine go ?_; try exact tt)
       rw [hk]
       (refine go ?_; try exact tt)
       refine Zh htm (go ?_)
       refine Za ha' [some 0,some 1,some 2,some 3,some 4] [] rfl (go ?_)
       refine .mk [(5,832)] (go ?_);try exact tt
 · obtain ⟨a,T,b⟩:=ZrC h hK hh o ho hk hid hi h0
   exact ⟨_,_,T,a,b⟩
theorem Ziz {n : Nat} {s : Sto} {S : List Item} {K : Nat} (h : SB n s S (fun _=>False) K) (hK : K + 4 ≤ 20000) (hh : s.all4 0) (o : OpS) (ho : o.Ok) :
 ∃ r t T,(ZaI o n s r t ∧ Q3 n s t) ∧ StepR n o s K r t T:=by
 have h1:=Int.tmod_nonneg (b:=5) ho.kind.1
 have h2:=(YB o.kind 5 (by omega)).2
 have : o.kind.tmod 5 = 0 ∨ o.kind.tmod 5 = 1 ∨ o.kind.tmod 5 = 2 ∨ o.kind.tmod 5 = 3 ∨ o.kind.tmod 5 = 4:=by omega
 rcases this with e | e | e | e | e
 · exact Zk0 h hK hh o ho (.inl e)
 · exact Zk0 h hK hh o ho (.inr e)
 · exact ZqH h hK hh o ho e
 · exact Zq5 h hK hh o ho e
 · exact Zq6 h hK hh o ho e
def Zea (s : Sto) (a l : Nat) : List (Nat × B):=[(a,.rows 10 [ZrI s (a + 1)]),(a + 1,Zrx s.m l (a + 3) (a + 4)),(l,ZoF s.m),(a + 3,Zc1 s.m),(a + 4,Zqj s.m)]
def Zq (m : Mem) : Nat → Mem
 | 0=>m
 | i + 1=>((Zq m i).unlock 0 i).1
theorem ZaA {m : Mem} (hm : m.mtx.length = 4) (h0 : ∀ i,i < 4 → m.held i = (true,0)) : ∀ i,i ≤ 4 → (Zq m i).words = m.words ∧ (Zq m i).mtx.length = 4 ∧ (Zq m i).log.length = m.log.length + i ∧ (Zq m i).viol = m.viol ∧ ∀ j,j < 4 → (Zq m i).held j = if j < i then (false,0) else (true,0)
 | 0,_=>⟨rfl,hm,rfl,rfl,fun j hj=>by rw [if_neg (by omega)];exact h0 j hj⟩
 | i + 1,hi=>by
  obtain ⟨a1,a2,a3,a4,a5⟩:=ZaA hm h0 i (by omega)
  have hf : (Zq m i).held i = (true,0):=by rw [a5 i (by omega),if_neg (by omega)]
  have e : Zq m (i + 1) = { (Zq m i) with mtx:=(Zq m i).mtx.set i (false,0),log:=(Zq m i).log ++ [⟨0,6,i,1,0,true⟩] }:=by
   show ((Zq m i).unlock 0 i).1 = _
   unfold Mem.unlock
   rw [if_pos hf]
  rw [e]
  refine ⟨a1,by simp [a2],by simp [a3];omega,a4,fun j hj=>?_⟩
  unfold Mem.held at a5 ⊢
  dsimp only
  rw [List.getElem?_set]
  by_cases c : i = j
  · subst c;rw [if_pos rfl,if_pos (by omega),if_pos (by omega)];rfl
  · rw [if_neg c,a5 j hj]
    by_cases d : j < i
    · rw [if_pos d,if_pos (by omega)]
    · rw [if_neg d,if_neg (by omega)]
structure Ready (n : Nat) (s : Sto) (S : List Item) : Prop where
 ok : SB n s S (fun _=>False) 241
 free : ∀ i,i < 4 → s.m.held i = (false,0)
 viol : s.m.viol = 0
 noc : ∀ i,i < n → s.st i ≠ 2
theorem Zn5 {n : Nat} {s : Sto} {S : List Item} {K : Nat} (h : SB n s S (fun _=>False) K) (hK : K ≤ 240) (hh : s.all4 0) (hv : s.m.viol = 0) (hnc : ∀ i,i < n → s.st i ≠ 2) : Ready n { s with m:=Zq s.m 4 } S:=by
 obtain ⟨a1,a2,a3,a4,a5⟩:=ZaA h.nm hh 4 (by omega)
 refine ⟨⟨(h.toSOk.same a1 a2).mono (by omega) (by omega),?_,?_⟩,fun i hi=>?_,by show (Zq s.m 4).viol = 0;rw [a4,hv],fun i hi=>by
  have e : Sto.st { s with m:=Zq s.m 4 } i = s.st i:=by unfold Sto.st Mem.word;dsimp only;rw [a1]
  rw [e];exact hnc i hi⟩
 · have:=h.log;show (Zq s.m 4).log.length ≤ _;omega
 · show 0 ≤ (Zq s.m 4).viol ∧ (Zq s.m 4).viol ≤ _;rw [a4,hv];omega
 · show (Zq s.m 4).held i = _
   rw [a5 i hi,if_pos hi]
theorem ZkW {m : Mem} {n : Nat} (hl : m.mtx.length = n) (h : ∀ i,i < n → (m.held i).1 = true → 0 ≤ (m.held i).2) : m.Thr:=fun i hi=>by
 by_cases c : i < n
 · exact h i c hi
 · unfold Mem.held at hi
   rw [List.getElem?_eq_none (by omega)] at hi
   cases hi
noncomputable def Zcv (n : Nat) (l : List OpS) : Nat → Sto × List Item
 | 0=>(YN n 4,[])
 | i + 1=>by
  classical
  exact if h : ∃ p : Sto × List Item,∃ o r,l[i]? = some o ∧ (ZaI o n (Zcv n l i).1 r p.1 ∧ Q3 n (Zcv n l i).1 p.1) ∧ StepR n o (Zcv n l i).1 (4 * i) r p.1 p.2 then Classical.choose h else Zcv n l i
theorem Zef {n : Nat} (hn : 1 ≤ n ∧ n ≤ 12) {l : List OpS} (hl : ∀ o ∈ l,o.Ok) : ∀ i,i ≤ l.length → i ≤ 60 → RunOk n l ⟨i,(Zcv n l i).1,(Zcv n l i).2⟩
 | 0,_,_=>ZjO hn l
 | i + 1,h1,h2=>by
  have ih:=Zef hn hl i (by omega) (by omega)
  obtain ⟨o,ho⟩:=ZF (show i < l.length by omega)
  have hb:=ih.ok
  dsimp only at hb
  obtain ⟨r,t,T,hs,hst⟩:=Ziz hb (by omega) ih.held o (hl o (List.mem_of_getElem? ho))
  have h : ∃ p : Sto × List Item,∃ o r,l[i]? = some o ∧ (ZaI o n (Zcv n l i).1 r p.1 ∧ Q3 n (Zcv n l i).1 p.1) ∧ StepR n o (Zcv n l i).1 (4 * i) r p.1 p.2:=⟨(t,T),o,r,ho,hs,hst⟩
  have e : Zcv n l (i + 1) = Classical.choose h:=by rw [Zcv];exact dif_pos h
  obtain ⟨o',r',_,_,hst'⟩:=Classical.choose_spec h
  rw [e]
  exact ih.next (show i < l.length by omega) hst'
theorem Znp {n : Nat} (hn : 1 ≤ n ∧ n ≤ 12) {l : List OpS} (hl : ∀ o ∈ l,o.Ok) {i : Nat} (h1 : i < l.length) (h2 : i < 60) {o : OpS} (ho : l[i]? = some o) : ∃ r,ZaI o n (Zcv n l i).1 r (Zcv n l (i + 1)).1:=by
 have ih:=Zef hn hl i (by omega) (by omega)
 have hb:=ih.ok
 dsimp only at hb
 obtain ⟨r,t,T,hs,hst⟩:=Ziz hb (by omega) ih.held o (hl o (List.mem_of_getElem? ho))
 have h : ∃ p : Sto × List Item,∃ o r,l[i]? = some o ∧ (ZaI o n (Zcv n l i).1 r p.1 ∧ Q3 n (Zcv n l i).1 p.1) ∧ StepR n o (Zcv n l i).1 (4 * i) r p.1 p.2:=⟨(t,T),o,r,ho,hs,hst⟩
 have e : Zcv n l (i + 1) = Classical.choose h:=by rw [Zcv];exact dif_pos h
 obtain ⟨o',r',e1,e2,_⟩:=Classical.choose_spec h
 rw [ho] at e1
 cases e1
 rw [e]
 exact ⟨r',e2.1⟩
theorem ZiU {n : Nat} (hn : 1 ≤ n ∧ n ≤ 12) {l : List OpS} (hl : ∀ o ∈ l,o.Ok) : ∀ i,i ≤ l.length → i ≤ 60 → ∀ j,j < n → (Zcv n l i).1.st j ≠ 2
 | 0,_,_,j,hj=>by
  have h0:=(Zdp hn (i:=4) (by decide)).1
  rcases h0.st_cases hj with e | e | e | e
  · show (YN n 4).st j ≠ 2;omega
  all_goals
   exfalso
   exact (h0.all j hj (by show (YN n 4).st j ≠ 0;omega)).elim id fun x=>(List.not_mem_nil x).elim
 | i + 1,h1,h2,j,hj=>by
  have ih:=Zef hn hl i (by omega) (by omega)
  have ih2:=ZiU hn hl i (by omega) (by omega) j hj
  obtain ⟨o,ho⟩:=ZF (show i < l.length by omega)
  have hb:=ih.ok
  dsimp only at hb
  obtain ⟨r,t,T,hs,hst⟩:=Ziz hb (by omega) ih.held o (hl o (List.mem_of_getElem? ho))
  have h : ∃ p : Sto × List Item,∃ o r,l[i]? = some o ∧ (ZaI o n (Zcv n l i).1 r p.1 ∧ Q3 n (Zcv n l i).1 p.1) ∧ StepR n o (Zcv n l i).1 (4 * i) r p.1 p.2:=⟨(t,T),o,r,ho,hs,hst⟩
  have e : Zcv n l (i + 1) = Classical.choose h:=by rw [Zcv];exact dif_pos h
  obtain ⟨o',r',_,hnc,_⟩:=Classical.choose_spec h
  rw [e]
  exact fun hx=>ih2 (hnc.2 j hj hx)
noncomputable def Zqd (n : Nat) (l : List OpS) : Sto:={ (Zcv n l (min l.length 60)).1 with m:=Zq (Zcv n l (min l.length 60)).1.m 4 }
theorem Zka {n : Nat} (hn : 1 ≤ n ∧ n ≤ 12) {l : List OpS} (hl : ∀ o ∈ l,o.Ok) : Ready n (Zqd n l) (Zcv n l (min l.length 60)).2:=by
 have h:=Zef hn hl (min l.length 60) (Nat.min_le_left _ _) (Nat.min_le_right _ _)
 exact Zn5 (K:=4 * min l.length 60) h.ok (by have:=Nat.min_le_right l.length 60;omega) h.held h.viol (ZiU hn hl _ (Nat.min_le_left _ _) (Nat.min_le_right _ _))
set_option maxHeartbeats 4000000 in
theorem Znw {n : Nat} (hn : 1 ≤ n ∧ n ≤ 12) (l : List OpS) (f : Nat → Sto × List Item) (hf0 : f 0 = (YN n 4,[])) (hok : ∀ i,i ≤ l.length → i ≤ 60 → RunOk n l ⟨i,(f i).1,(f i).2⟩)
 (hst : ∀ i,i < l.length → i < 60 → ∀ o,l[i]? = some o → ∃ r,ZaI o n (f i).1 r (f (i + 1)).1) :
 LSpec Tryz.prog 13 [V.int n,Znl l] [] 0 (.tup [.p 0 10 0 0,.p 5 10 0 0]) (ZE { (f (min l.length 60)).1 with m:=Zq (f (min l.length 60)).1.m 4 } 2 ++ Zea { (f (min l.length 60)).1 with m:=Zq (f (min l.length 60)).1.m 4 } 5 7) 10:=by
 have hend:=hok (min l.length 60) (Nat.min_le_left _ _) (Nat.min_le_right _ _)
 have hmin : min l.length 60 = l.length ∨ min l.length 60 = 60:=by omega
 refine lspec tab_ok mix Tryz.func13 (by kernel_rfl) (by rfl) (by rfl) (by rfl) (by rfl) ?_
 (refine go ?_; try exact tt)
 refine Za (ZtV n hn) [] [] rfl (go ?_)
 refine Za (Zsj n ⟨hn.1,by omega⟩) [] [] rfl (go ?_)
 have h0 : YN n 0 = ZbX n:=rfl
 refine Y3 tab_ok mix [0,1] [] (fun i : Nat=>[(6,.p 0 10 0 0),(7,.p 5 10 0 0),(8,V.int i)]) (fun i=>ZE (YN n 4) 2 ++ Zea (YN n i) 5 7) (fun i=>i ≤ 4) (fun i=>4 - i) [(0,256),(1,257),(2,258),(3,259),(4,260),(5,448),(6,449),(7,450),(8,451),(9,452)] 0 rfl (by omega) (by rw [h0];(refine go ?_; try exact tt)) ?_
 rintro i hi
 obtain ⟨b1,b2,b3⟩:=Zdp hn hi
 (refine go ?_; try exact tt)
 refine Zf (fun u=>?_) (fun u=>?_) <;> (refine go ?_; try exact tt)
 · have u' : i < 4:=by omega
   have hthr : (YN n i).m.Thr:=ZkW b1.nm fun j hj hx=>by
    rw [b2 j hj] at hx ⊢
    split
    · exact Int.le_refl 0
    · exact Int.le_refl 0
   have hlk:=ZqV (YN n i).m 0 i (by rw [b1.nm];exact u') hthr b1.fits.mem 0 0
   have hnx : ((YN n i).m.lock 0 i).1 = (YN n (i + 1)).m:=rfl
   have hq : { YN n i with m:=(YN n (i + 1)).m } = YN n (i + 1):=rfl
   rw [hnx] at hlk
   refine Za hlk [some 6,some 7,some 8,some 9] [] rfl (go ?_)
   refine .mk [(7,1536)] (i + 1) (by omega) (by omega) ?_
   rw [← hq]
   (refine go ?_; try exact tt)
 · obtain rfl : i = 4:=by omega
   refine Y3 tab_ok mix [0,1,6,7] [] (fun i : Nat=>[(9,V.int i)]) (fun i=>ZE (f i).1 2 ++ Zea (f i).1 5 7) (fun i=>i ≤ min l.length 60) (fun i=>min l.length 60 - i) [] 0 rfl (by omega) (by rw [show (f 0).1 = YN n 4 by rw [hf0]];(refine go ?_; try exact tt)) ?_
   rintro i hi2
   have hb:=hok i (by omega) (by omega)
   (refine go ?_; try exact tt)
   have hml : (l.map OpS.row).length = l.length:=List.length_map ..
   by_cases u1 : i < l.length
   · rw [decide_eq_true (show (i : Int) < (l.map OpS.row).length by omega)]
     (refine go ?_; try exact tt)
     by_cases u2 : i < 60
     · rw [decide_eq_true (show (i : Int) < 60 by omega)]
       (refine go ?_; try exact tt)
       obtain ⟨o,ho⟩:=ZF u1
       obtain ⟨r,hs,hr⟩:=hst i u1 u2 o ho
       refine Zcw ho (go ?_)
       refine Za hs [some 0,some 1,some 2,some 3,some 4] [] rfl (go ?_)
       refine Zcw ho (go ?_)
       refine Za hr [some 5,some 6,some 7,some 8,some 9] [] rfl (go ?_)
       refine .mk [(2,2112),(7,2560)] (i + 1) (by omega) (by omega) (go ?_);try exact tt
     · rw [decide_eq_false (show ¬ (i : Int) < 60 by omega)]
       (refine go ?_; try exact tt)
       obtain rfl : i = min l.length 60:=by omega
       clear hend
       generalize (f (min l.length 60)).1 = s1 at *
       refine Y3 tab_ok mix [6,7] [] (fun k : Nat=>[(10,V.int k)]) (fun k=>ZE { s1 with m:=Zq s1.m k } 2 ++ Zea { s1 with m:=Zq s1.m k } 5 7) (fun k=>k ≤ 4) (fun k=>4 - k) [] 0 rfl (by omega) (by rw [show Zq s1.m 0 = s1.m from rfl];(refine go ?_; try exact tt)) ?_
       rintro k hk
       obtain ⟨a1,a2,a3,a4,a5⟩:=ZaA hb.ok.nm hb.held k hk
       have hfit : (Zq s1.m k).Fits:=by
        have f:=hb.ok.fits.mem
        have h1:=hb.ok.log;have hmm:=Nat.min_le_right l.length 60
        have h2:=f.viol
        exact ⟨by dsimp only at h1 a3;omega,by rw [a4];exact h2,by rw [a1];exact f.words,by rw [a2];decide⟩
       (refine go ?_; try exact tt)
       refine Zf (fun u=>?_) (fun u=>?_) <;> (refine go ?_; try exact tt)
       · have u' : k < 4:=by omega
         have hthr : (Zq s1.m k).Thr:=ZkW a2 fun j hj hx=>by
          rw [a5 j hj] at hx ⊢
          split
          · exact Int.le_refl 0
          · exact Int.le_refl 0
         refine Za (ZB { s1 with m:=Zq s1.m k }) [some 0,some 1,some 2,some 3,some 4] [] rfl (go ?_)
         have hp:=Zd1 (Zq s1.m k) 0 k (by rw [a2];exact u') hfit
         have hr:=Zgq (Zq s1.m k) 0 k (by rw [a2];exact u') hthr (by decide) hfit 0 0
         rw [show ((Zq s1.m k).unlock 0 k).1 = Zq s1.m (k + 1) from rfl] at hp hr
         refine Za hp [some 1,some 2,some 3,some 4] [] rfl (go ?_)
         refine Za hr [some 6,some 7,some 8,some 9] [] rfl (go ?_)
         refine .mk [(2,2112),(7,2560)] (k + 1) (by omega) (by omega) (go ?_);try exact tt
       · obtain rfl : k = 4:=by omega
         refine .mk [] (go ?_);try exact tt
   · rw [decide_eq_false (show ¬ (i : Int) < (l.map OpS.row).length by omega)]
     (refine go ?_; try exact tt)
     obtain rfl : i = min l.length 60:=by omega
     clear hend
     generalize (f (min l.length 60)).1 = s1 at *
     refine Y3 tab_ok mix [6,7] [] (fun k : Nat=>[(10,V.int k)]) (fun k=>ZE { s1 with m:=Zq s1.m k } 2 ++ Zea { s1 with m:=Zq s1.m k } 5 7) (fun k=>k ≤ 4) (fun k=>4 - k) [] 0 rfl (by omega) (by rw [show Zq s1.m 0 = s1.m from rfl];(refine go ?_; try exact tt)) ?_
     rintro k hk
     obtain ⟨a1,a2,a3,a4,a5⟩:=ZaA hb.ok.nm hb.held k hk
     have hfit : (Zq s1.m k).Fits:=by
      have f:=hb.ok.fits.mem
      have h1:=hb.ok.log;have hmm:=Nat.min_le_right l.length 60
      have h2:=f.viol
      exact ⟨by dsimp only at h1 a3;omega,by rw [a4];exact h2,by rw [a1];exact f.words,by rw [a2];decide⟩
     (refine go ?_; try exact tt)
     refine Zf (fun u=>?_) (fun u=>?_) <;> (refine go ?_; try exact tt)
     · have u' : k < 4:=by omega
       have hthr : (Zq s1.m k).Thr:=ZkW a2 fun j hj hx=>by
        rw [a5 j hj] at hx ⊢
        split
        · exact Int.le_refl 0
        · exact Int.le_refl 0
       refine Za (ZB { s1 with m:=Zq s1.m k }) [some 0,some 1,some 2,some 3,some 4] [] rfl (go ?_)
       have hp:=Zd1 (Zq s1.m k) 0 k (by rw [a2];exact u') hfit
       have hr:=Zgq (Zq s1.m k) 0 k (by rw [a2];exact u') hthr (by decide) hfit 0 0
       rw [show ((Zq s1.m k).unlock 0 k).1 = Zq s1.m (k + 1) from rfl] at hp hr
       refine Za hp [some 1,some 2,some 3,some 4] [] rfl (go ?_)
       refine Za hr [some 6,some 7,some 8,some 9] [] rfl (go ?_)
       refine .mk [(2,2112),(7,2560)] (k + 1) (by omega) (by omega) (go ?_);try exact tt
     · obtain rfl : k = 4:=by omega
       exact .mk [] (go tt)
theorem Zl0 {n : Nat} (hn : 1 ≤ n ∧ n ≤ 12) (l : List OpS) (hl : ∀ o ∈ l,o.Ok) :
 LSpec Tryz.prog 13 [V.int n,Znl l] [] 0 (.tup [.p 0 10 0 0,.p 5 10 0 0]) (ZE (Zqd n l) 2 ++ Zea (Zqd n l) 5 7) 10:=
 Znw hn l (Zcv n l) rfl (fun i h1 h2=>Zef hn hl i h1 h2) fun i h1 h2 o ho=>Znp hn hl h1 h2 ho
def COp.sl (c : COp) : Nat:=(ZM c.h).toNat
def COp.has (c : COp) (s : Sto) : Prop:=0 ≤ ZM c.h ∧ ZM c.h < s.slots.length
instance (c : COp) (s : Sto) : Decidable (c.has s):=inferInstanceAs (Decidable (_ ∧ _))
def Zs (c : COp) (s : Sto) : COp × Sto:=
 if c.has s then
  if c.ph = 1 then (c.cl.swap (decide (s.m.word (c.sl + 1) = c.seen)),{ s with m:=(s.m.cas c.th (c.sl + 1) c.seen c.new).1 })
  else (c.cl.load (s.m.word (c.sl + 1)),{ s with m:=s.m.load c.th (c.sl + 1) })
 else ({ c.cl with ph:=2 },s)
structure Wds (s : Sto) (B : Int) : Prop where
 fits : s.Fits
 lt : s.m.words.length = s.slots.length + 1
 wd : ∀ p,p < s.slots.length → 0 ≤ s.m.word (p + 1) ∧ s.m.word (p + 1) ≤ B
 bd : B ≤ 4398046511104
structure COk (c : COp) (B : Int) : Prop where
 seen : c.ph = 1 → 0 ≤ c.seen ∧ c.seen ≤ B
 dn : c.done = true → c.ph = 2
theorem Zod (c : COp) (s : Sto) (h : ¬ c.has s) :
 LSpec Tryz.prog 39 [.p 0 10 0 0] (ZhA c s 3) 6 (V.bool true) (ZhA { c.cl with ph:=2 } s 6) 7:=by
 have hi:=ZiG c.cl s
 rw [decide_eq_false (show ¬ (0 ≤ ZM c.cl.h ∧ ZM c.cl.h < s.slots.length) from h)] at hi
 refine lspec tab_ok mix Tryz.func39 (by kernel_rfl) (by rfl) (by rfl) (by rfl) (by rfl) ?_
 (refine go ?_; try exact tt)
 refine Za hi [some 0,some 1,some 2,some 3,some 4,some 5] [] rfl (go ?_)
 exact .mk [(6,3)] (go tt)
theorem ZsE (c : COp) (s : Sto) {B : Int} (hw : Wds s B) (hc : COk c B) :
 LSpec Tryz.prog 39 [.p 0 10 0 0] (ZhA c s 3) 6 (V.bool (decide ((Zs c s).1.ph = 2))) (ZhA (Zs c s).1 (Zs c s).2 6) 7:=by
 unfold Zs
 have hbd:=hw.bd
 by_cases h : c.has s
 · rw [if_pos h]
   have hk : ZM c.h = (c.sl : Int):=by have:=h.1;unfold COp.sl;omega
   have hks : c.sl < s.slots.length:=by have:=h.2;omega
   have hkw : c.sl + 1 < s.m.words.length:=by rw [hw.lt];omega
   have hwd:=hw.wd c.sl hks
   by_cases hp : c.ph = 1
   · rw [if_pos hp]
     have:=hc.seen hp
     exact ZmN c s c.sl hk hks hkw hw.fits ⟨this.1,by omega⟩ hp
   · rw [if_neg hp]
     exact Zm6 c s c.sl hk hks hkw hw.fits ⟨hwd.1,by omega⟩ hp
 · rw [if_neg h]
   exact Zod c s h
theorem Zbn (c : COp) (s : Sto) : (Zs c s).1.th = c.th ∧ (Zs c s).1.h = c.h ∧ (Zs c s).2.slots = s.slots ∧ (Zs c s).2.idle = s.idle ∧ (Zs c s).2.next = s.next ∧ (Zs c s).2.q = s.q ∧ (Zs c s).2.m.mtx = s.m.mtx ∧ (Zs c s).2.m.viol = s.m.viol ∧
 (Zs c s).2.m.words.length = s.m.words.length ∧ s.m.log.length ≤ (Zs c s).2.m.log.length ∧ (Zs c s).2.m.log.length ≤ s.m.log.length + 1:=by
 unfold Zs
 split
 · split
   · refine ⟨?_,?_,rfl,rfl,rfl,rfl,?_,?_,?_,?_,?_⟩
     · unfold COp.swap;split <;> rfl
     · unfold COp.swap;split <;> rfl
     all_goals
      unfold Mem.cas
      split <;> simp [Mem.put]
   · refine ⟨?_,?_,rfl,rfl,rfl,rfl,rfl,rfl,?_,?_,?_⟩
     · unfold COp.load;split;rfl;split <;> rfl
     · unfold COp.load;split;rfl;split <;> rfl
     all_goals simp [Mem.load,Mem.put]
 · exact ⟨rfl,rfl,rfl,rfl,rfl,rfl,rfl,rfl,rfl,Nat.le_refl _,Nat.le_succ _⟩
theorem COk.step {s : Sto} {B : Int} (hw : Wds s B) {c : COp} (hc : COk c B) (h2 : c.ph ≠ 2) : COk (Zs c s).1 B:=by
 have hd : c.done = false:=by
  cases h : c.done with
  | false=>rfl
  | true=>exact absurd (hc.dn h) h2
 unfold Zs
 by_cases h : c.has s
 · rw [if_pos h]
   have hks : c.sl < s.slots.length:=by have:=h.1;have:=h.2;unfold COp.sl;omega
   have hwd:=hw.wd c.sl hks
   by_cases hp : c.ph = 1
   · rw [if_pos hp]
     dsimp only
     unfold COp.swap
     split
     · exact ⟨fun x=>(by cases x),fun _=>rfl⟩
     · exact ⟨fun x=>(by cases x),fun x=>(by have x : c.done = true:=x;rw [hd] at x;cases x)⟩
   · rw [if_neg hp]
     dsimp only
     unfold COp.load
     split
     · exact ⟨fun x=>(by cases x),fun _=>rfl⟩
     · split
       · exact ⟨fun x=>absurd x hp,fun x=>(by have x : c.done = true:=x;rw [hd] at x;cases x)⟩
       · exact ⟨fun _=>hwd,fun x=>(by have x : c.done = true:=x;rw [hd] at x;cases x)⟩
 · rw [if_neg h]
   exact ⟨fun x=>(by cases x),fun _=>rfl⟩
theorem ZlD (a b : Res) (hl : a.evs.length < 9223372036854775807) : PSpec Tryz.prog 20 [a.v,b.v] (V.bool (decide (a = b))):=by
 refine pspec tab_ok mix Tryz.func20 (by kernel_rfl) rfl rfl ?_
 (refine go ?_; try trivial)
 refine Za3 (fun g=>?_) (fun g1=>?_) <;> (refine go ?_; try trivial)
 · exact .same (by rw [decide_eq_false];rintro rfl;exact g rfl)
 refine Za3 (fun g=>?_) (fun g2=>?_) <;> (refine go ?_; try trivial)
 · exact .same (by rw [decide_eq_false];rintro rfl;exact g rfl)
 refine Ztr (p:=a.canc = b.canc) (by cases a.canc <;> cases b.canc <;> rfl) (fun g=>?_) (fun g3=>?_) <;> (refine go ?_; try trivial)
 · exact .same (by rw [decide_eq_false];rintro rfl;exact g rfl)
 refine Za3 (fun g=>?_) (fun g4=>?_) <;> (refine go ?_; try trivial)
 · exact .same (by rw [decide_eq_false];rintro rfl;exact g rfl)
 simp at g4
 refine Y3 tab_ok mix [2,3] [0,64] (fun i : Nat=>[(5,V.int i)]) (fun i=>[]) (fun i=>i ≤ a.evs.length ∧ a.evs.take i = b.evs.take i) (fun i=>a.evs.length - i) [] 0 rfl ⟨by omega,by simp⟩ (by (refine go ?_; try trivial)) ?_
 rintro i ⟨h1,h2⟩
 (refine go ?_; try trivial)
 refine Zf (fun g=>?_) (fun g=>?_) <;> (refine go ?_; try trivial)
 · simp at g
   obtain ⟨x,hx⟩:=ZF g
   obtain ⟨y,hy⟩:=ZF (show i < b.evs.length by omega)
   refine Zcw hx (go ?_)
   refine Zcw hy (go ?_)
   refine ZtY [true,true] (by kernel_rfl) rfl rfl rfl (go ?_)
   have exy : (decide (x.time = y.time) && (decide (x.handle = y.handle) && true)) = decide (x = y):=by
    cases x;cases y;simp
   refine Ztr exy (fun e=>?_) (fun e=>?_) <;> (refine go ?_; try trivial)
   · refine .same ?_
     rw [decide_eq_false]
     rintro rfl
     rw [hx] at hy;cases hy;exact e rfl
   · refine .mk [] (i + 1) ⟨by omega,?_⟩ (by omega) ?_
     · rw [List.take_add_one,List.take_add_one,hx,hy,h2,e]
     · (refine go ?_; try trivial)
 · have e : i = a.evs.length:=by simp at g;omega
   subst e
   rw [List.take_length,List.take_of_length_le (by omega)] at h2
   exact .same (by cases a;cases b;simp_all)
theorem Zt3 (c : Int) (h : 0 ≤ c ∧ c ≤ 255) : PSpec Tryz.prog 14 [.c (.int .u8 c)] (V.int (Zti c)):=by
 have hc:=ZmW h.1
 refine pspec tab_ok mix Tryz.func14 (by kernel_rfl) rfl rfl ?_
 (refine go ?_; try exact tt)
 rw [hc.1]
 exact .same rfl
theorem SB.wds {n : Nat} {s : Sto} {S : List Item} {A : Nat → Prop} {K : Nat} (h : SB n s S A K) : Wds s (4 * K + 3):=by
 have hk:=h.kb
 refine ⟨h.fits,by rw [h.nw,h.ns],fun p hp=>?_,by omega⟩
 have h1:=h.wd p (by rw [← h.ns];exact hp)
 unfold Sto.gn at h1
 omega
end Go.Proofs.YtdjnjchpgccbiaaGreat.Abs
