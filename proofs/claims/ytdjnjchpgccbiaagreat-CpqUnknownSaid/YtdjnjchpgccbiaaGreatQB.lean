/- cpq: Do. -/
import Derived.Test.YtdjnjchpgccbiaaGreatQA
import Derived.Test.YtdjnjchpgccbiaaGreatJB
import Derived.Test.YtdjnjchpgccbiaaGreatMP
import Derived.Test.YtdjnjchpgccbiaaGreatOC
namespace Go.Proofs.YtdjnjchpgccbiaaGreat.Abs
open Go.Proofs
set_option maxRecDepth 10000
set_option linter.unusedSimpArgs false
set_option linter.unusedVariables false
def muF (a n x : Nat) : Nat:=match x with
 | 0=>a
 | 1=>a + 1
 | x + 2=>n + x
def Zsl (o : Kop) (z : Int) (st : Nat) (ν : Nat → Nat) (b : B) : List (Nat × B):=[(ν 0,o.blkC z st ν 0),(ν 1,o.blkC z st ν 1),(ν 2,o.blkC z st ν 2),(ν 3,b),(ν 4,o.blkC z st ν 4),(ν 5,o.blkC z st ν 5),(ν 6,o.blkC z st ν 6),(ν 7,o.blkC z st ν 7),(ν 8,o.blkC z st ν 8),(ν 9,o.blkC z st ν 9),(ν 10,o.blkC z st ν 10),(ν 11,o.blkC z st ν 11),(ν 12,o.blkC z st ν 12)]
theorem ZrA {o : Kop} (h : o.hasEv = true) (z : Int) (st : Nat) (ν : Nat → Nat) : Zp7 o z st ν = Zsl o z st ν (.dat 2 (o.evl.map evD)):=by
 unfold Zp7 Zsl
 rw [Kop.ev_blk h]
def Kop.resW (o : Kop) (x : V) : V:=.agg [V.int o.res.err,V.int o.res.handle,V.bool o.res.canc,x]
theorem ZrU {o : Kop} (h : o.hasEv = true) (n : Nat) (σ : Nat → Nat) : ZZ σ (o.resV n) = o.resW (.ac (σ n) 2 o.evl.length):=by
 rw [ZiL];unfold Kop.resV Kop.resW;rw [h];rfl
theorem Zsr {o : Kop} (h : o.hasEv = false) (n : Nat) (σ : Nat → Nat) : ZZ σ (o.resV n) = o.resW (.c (.slice none 0 0)):=by
 rw [ZiL];unfold Kop.resV Kop.resW;rw [h];rfl
set_option maxHeartbeats 8000000 in
theorem Zu1 (P : Nat → Kop) (Q : Nat → Sto) (m : Nat) (th : Int) (c : Cl) (hm : 1 ≤ m ∧ m ≤ 1000) (h0 : P 0 = .new th c) (hst : ∀ k,k < m → Zb6 (P k) k (Q k) (decide (k + 1 = m)) (P (k + 1)) (Q (k + 1))) (hev : (P m).hasEv = true) :
 LSpec Tryz.prog 62 [.p 0 10 0 0,V.int th,c.v] (ZE (Q 0) 2) 5 ((P m).resW (.ac 6 2 (P m).evl.length)) (ZE (Q m) 5 ++ [(6,.dat 2 ((P m).evl.map evD))]) 7:=by
 have hnew:=Zl5 (Q 0) th c
 rw [← h0] at hnew
 refine lspec tab_ok mix Tryz.func62 (by kernel_rfl) (by rfl) (by rfl) (by rfl) (by rfl) ?_
 (refine go ?_; try exact tt)
 refine Qd hnew [some 0,some 1,some 2,some 3,some 4] [] (ZE (Q 0) 2) _ (.p 384 2 0 0) rfl (Zgy (ν:=fun x=>384 + x) (P 0) (Q 0) (by decide) rfl rfl rfl rfl rfl) rfl rfl (go ?_)
 refine Ztd tab_ok mix [20,21,22,23,24,25,26,27,28,29,30,31,32] [6] [128] (fun k : Nat=>[(7,.p 20 2 0 0)]) (fun k=>Zp7 (P k) k 0 (fun x=>20 + x) ++ Zph (Q k) 0 1 33 3 4) (fun k=>k < m) (fun k=>m - k) [(20,384),(21,385),(22,386),(23,387),(24,388),(25,389),(26,390),(27,391),(28,392),(29,393),(30,394),(31,395),(32,396),(33,2)] 0 rfl (by omega) ?_ ?_
 · (refine go ?_; try exact tt)
   iterate 13 (refine ZjQ (o:=P 0) (z:=0) (st:=0) (ν:=fun x=>20 + x) (fun x=>384 + x) ?_ (by rfl) (by rfl) (by decide) (by decide) (by decide);(refine go ?_; try exact tt))
 intro k hk
 (refine go ?_; try exact tt)
 have h1:=hst k hk
 refine Qd h1 [some 20,some 21,some 22,some 23,some 24,some 25,some 26,some 27,some 28,some 29,some 30,some 31,some 32,some 0,some 1,some 33,some 3,some 4] [] _ _ _ (ZL (ν:=fun x=>20 + x) (P k) k (Q k) (by decide) rfl rfl rfl rfl rfl) (Zg1 (ν:=muF 20 576) (P (k + 1)) (k + 1) (Q (k + 1)) rfl rfl (by decide) rfl rfl rfl rfl rfl) rfl rfl (go ?_)
 by_cases hz : k + 1 = m
 case neg=>
  rw [decide_eq_false hz]
  (refine go ?_; try exact tt)
  refine .mk [(22,576),(23,577),(24,578),(25,579),(26,580),(27,581),(28,582),(29,583),(30,584),(31,585),(32,586),(33,587)] (k + 1) (by omega) (by omega) (go ?_)
  iterate 13 (refine ZjQ (o:=P (k + 1)) (z:=((k + 1 : Nat) : Int)) (st:=0) (ν:=fun x=>20 + x) (muF 20 576) ?_ (by rfl) (by rfl) (by decide) (by decide) (by decide);(refine go ?_; try exact tt))
 subst hz
 rw [decide_eq_true rfl]
 (refine go ?_; try exact tt)
 refine Yz (P (k + 1)).ty (Zbd (P (k + 1))) rfl rfl (go ?_)
 have hres:=Zdq (P (k + 1)) ((k : Int) + 1) (Q (k + 1))
 refine Qd hres [some 20,some 21,some 576,some 577,some 578,some 579,some 580,some 581,some 582,some 583,some 584,some 585,some 586,some 0,some 1,some 587,some 3,some 4] [] _ _ _ (ZL (ν:=muF 20 576) (P (k + 1)) (k + 1) (Q (k + 1)) (by decide) rfl rfl rfl rfl rfl) ((ZL (ν:=muF 20 576) (P (k + 1)) (k + 1) (Q (k + 1)) (by decide) rfl rfl rfl rfl rfl).trans (congrArg (· ++ _) (ZrA hev _ _ _))) (ZrU hev _ _) rfl (go ?_)
 exact .mk [(5,587),(6,577)] (go tt)
set_option maxHeartbeats 8000000 in
theorem Zu3 (P : Nat → Kop) (Q : Nat → Sto) (m : Nat) (th : Int) (c : Cl) (hm : 1 ≤ m ∧ m ≤ 1000) (h0 : P 0 = .new th c) (hst : ∀ k,k < m → Zb6 (P k) k (Q k) (decide (k + 1 = m)) (P (k + 1)) (Q (k + 1))) (hev : (P m).hasEv = false) :
 LSpec Tryz.prog 62 [.p 0 10 0 0,V.int th,c.v] (ZE (Q 0) 2) 5 ((P m).resW (.c (.slice none 0 0))) (ZE (Q m) 5) 6:=by
 have hnew:=Zl5 (Q 0) th c
 rw [← h0] at hnew
 refine lspec tab_ok mix Tryz.func62 (by kernel_rfl) (by rfl) (by rfl) (by rfl) (by rfl) ?_
 (refine go ?_; try exact tt)
 refine Qd hnew [some 0,some 1,some 2,some 3,some 4] [] (ZE (Q 0) 2) _ (.p 384 2 0 0) rfl (Zgy (ν:=fun x=>384 + x) (P 0) (Q 0) (by decide) rfl rfl rfl rfl rfl) rfl rfl (go ?_)
 refine Ztd tab_ok mix [20,21,22,23,24,25,26,27,28,29,30,31,32] [6] [128] (fun k : Nat=>[(7,.p 20 2 0 0)]) (fun k=>Zp7 (P k) k 0 (fun x=>20 + x) ++ Zph (Q k) 0 1 33 3 4) (fun k=>k < m) (fun k=>m - k) [(20,384),(21,385),(22,386),(23,387),(24,388),(25,389),(26,390),(27,391),(28,392),(29,393),(30,394),(31,395),(32,396),(33,2)] 0 rfl (by omega) ?_ ?_
 · (refine go ?_; try exact tt)
   iterate 13 (refine ZjQ (o:=P 0) (z:=0) (st:=0) (ν:=fun x=>20 + x) (fun x=>384 + x) ?_ (by rfl) (by rfl) (by decide) (by decide) (by decide);(refine go ?_; try exact tt))
 intro k hk
 (refine go ?_; try exact tt)
 have h1:=hst k hk
 refine Qd h1 [some 20,some 21,some 22,some 23,some 24,some 25,some 26,some 27,some 28,some 29,some 30,some 31,some 32,some 0,some 1,some 33,some 3,some 4] [] _ _ _ (ZL (ν:=fun x=>20 + x) (P k) k (Q k) (by decide) rfl rfl rfl rfl rfl) (Zg1 (ν:=muF 20 576) (P (k + 1)) (k + 1) (Q (k + 1)) rfl rfl (by decide) rfl rfl rfl rfl rfl) rfl rfl (go ?_)
 by_cases hz : k + 1 = m
 case neg=>
  rw [decide_eq_false hz]
  (refine go ?_; try exact tt)
  refine .mk [(22,576),(23,577),(24,578),(25,579),(26,580),(27,581),(28,582),(29,583),(30,584),(31,585),(32,586),(33,587)] (k + 1) (by omega) (by omega) (go ?_)
  iterate 13 (refine ZjQ (o:=P (k + 1)) (z:=((k + 1 : Nat) : Int)) (st:=0) (ν:=fun x=>20 + x) (muF 20 576) ?_ (by rfl) (by rfl) (by decide) (by decide) (by decide);(refine go ?_; try exact tt))
 subst hz
 rw [decide_eq_true rfl]
 (refine go ?_; try exact tt)
 refine Yz (P (k + 1)).ty (Zbd (P (k + 1))) rfl rfl (go ?_)
 have hres:=Zdq (P (k + 1)) ((k : Int) + 1) (Q (k + 1))
 refine Qd hres [some 20,some 21,some 576,some 577,some 578,some 579,some 580,some 581,some 582,some 583,some 584,some 585,some 586,some 0,some 1,some 587,some 3,some 4] [] _ _ _ (ZL (ν:=muF 20 576) (P (k + 1)) (k + 1) (Q (k + 1)) (by decide) rfl rfl rfl rfl rfl) (ZL (ν:=muF 20 576) (P (k + 1)) (k + 1) (Q (k + 1)) (by decide) rfl rfl rfl rfl rfl) (Zsr hev _ _) rfl (go ?_)
 exact .mk [(5,587)] (go tt)
structure KAlone (n K0 t : Nat) (s : Sto) (S : List Item) (M : Mod) (c : Cl) (e : Nat) (S1 : List Item) (M1 : Mod) : Prop where
 e1 : 1 ≤ e
 e2 : e ≤ 3 * S.length + 9
 st : ∀ k,k < e → Zb6 (Yc (.new t c) s k).1 k (Yc (.new t c) s k).2 (decide (k + 1 = e)) (Yc (.new t c) s (k + 1)).1 (Yc (.new t c) s (k + 1)).2
 bl : ∀ k,k < e → (Yc (.new t c) s (k + 1)).1.blk = false
 ef : ∀ k,k < e → (Yc (.new t c) s (k + 1)).1.eff = (!(Yc (.new t c) s k).1.late && (Yc (.new t c) s (k + 1)).1.late)
 keep : ∀ k,k < e → (Yc (.new t c) s k).1.late = true → (Yc (.new t c) s (k + 1)).1.late = true
 lt : (Yc (.new t c) s e).1.late = true
 y : Rdy n (K0 + e) (Yc (.new t c) s e).2 S1
 m : RdM n (Yc (.new t c) s e).2 S1 M1
 d : doM M c.cal (Yc (.new t c) s e).1.res.handle = (M1,(Yc (.new t c) s e).1.res)
 evl : (Yc (.new t c) s e).1.evl.length < 1000
 dn : (Yc (.new t c) s e).1.done = true
 nd : ∀ k,k < e → (Yc (.new t c) s k).1.done = false
 hold : ∀ k,k < e → ∃ S2 A2,SB n (Yc (.new t c) s k).2 S2 A2 (K0 + k) ∧ (Yc (.new t c) s k).2.m.Thr ∧ KopOk n (K0 + k) (Yc (.new t c) s k).2 S2 A2 (Yc (.new t c) s k).1 ∧ ∀ i,i < 4 → (Yc (.new t c) s k).1.Hd i → (Yc (.new t c) s k).2.m.held i = (true,(Yc (.new t c) s k).1.th)
 kind : ∀ k,k < e → (Yc (.new t c) s k).1.For c
theorem ZnM (o : Kop) (s : Sto) : (o.step s).1.evl.length ≤ o.evl.length + 1:=by
 cases o with
 | bat o=>
  show (o.step s).1.ev.length ≤ o.ev.length + 1
  unfold BOp.step BOp.lock BOp.take BOp.scan BOp.free BOp.unlock
  repeat' split
  all_goals (first | (dsimp only;omega) | (dsimp only;rw [List.length_append];exact Nat.le_refl _))
 | _=>exact Nat.zero_le _
theorem Zlw {o : Kop} {s : Sto} : ∀ k,(Yc o s k).1.evl.length ≤ o.evl.length + k
 | 0=>Nat.le_refl _
 | k + 1=>by
  have ih:=Zlw (o:=o) (s:=s) k
  have h2:=ZnM (Yc o s k).1 (Yc o s k).2
  show ((Yc o s k).1.step (Yc o s k).2).1.evl.length ≤ _
  omega
theorem ZqA (th : Int) (c : Cl) : (Kop.new th c).evl = []:=by
 unfold Kop.new
 repeat' split
 all_goals rfl
theorem ZeT {n K0 : Nat} {s : Sto} {S : List Item} {M : Mod} (hr : Rdy n K0 s S) (hM : RdM n s S M) (t : Nat) (c : Cl) (hK : K0 + 50 ≤ 20000) : ∃ e S1 M1,KAlone n K0 t s S M c e S1 M1:=by
 obtain ⟨e,h⟩:=Zm0 hr hM t c hK
 have hS : S.length ≤ 12:=by have:=hr.ok.toSOk.len;have:=hr.ok.n12;omega
 have he:=h.e2
 obtain ⟨S1,M1,f1,f2,f3⟩:=h.fin
 have key : ∀ k,k ≤ e → AR (t + 1) n K0 t c M (3 * S.length + 9) k (Yc (.new t c) s k).1 (Yc (.new t c) s k).2:=fun k=>by
  induction k with
  | zero=>exact fun _=>AR.zero hr hM c
  | succ k ih=>exact fun hk=>((ih (by omega)).step (h.run k (by omega)).1 (by omega) (by omega)).1
 refine ⟨e,S1,M1,h.e1,he,fun k hk=>?_,fun k hk=>(h.run k hk).2.blk,fun k hk=>(h.run k hk).2.late.eff,fun k hk y=>((h.run k hk).2.late.keep y).1,h.lt,f1,f2,f3,?_,h.dn,fun k hk=>(h.run k hk).1,fun k hk=>?_,fun k hk=>(key k (by omega)).fr⟩
 · obtain ⟨h1,h2⟩:=h.run k hk
   obtain ⟨S2,A2,S3,A3,b1,b2,b3,b4⟩:=h2.run
   have h6:=Zsu b1 (by omega) b2 b3 (z:=k) (by omega)
   rw [show ((Yc (.new t c) s k).1.step (Yc (.new t c) s k).2).1.done = decide (k + 1 = e) by
    show (Yc (.new t c) s (k + 1)).1.done = _
    by_cases hz : k + 1 = e
    · rw [hz,h.dn,decide_eq_true rfl]
    · rw [(h.run (k + 1) (by omega)).1,decide_eq_false hz]] at h6
   exact h6
 · have:=Zlw (o:=.new t c) (s:=s) e
   rw [ZqA] at this
   have : (Yc (.new t c) s e).1.evl.length ≤ 0 + e:=this
   omega
 · obtain ⟨S2,A2,L2,M2,hm,_⟩:=(key k (by omega)).st
   rw [YA (h.run k hk).1] at hm
   obtain ⟨q1,q2⟩:=hm.ops t _ (Nat.lt_succ_self t) (Zb ..)
   exact ⟨S2,A2,hm.sb,hm.thr,q1,fun i hi hh=>by rw [hm.h1 i t _ hi (Nat.lt_succ_self t) (Zb ..) hh,q2]⟩
theorem KAlone.doF {n K0 t : Nat} {s : Sto} {S : List Item} {M : Mod} {c : Cl} {e : Nat} {S1 : List Item} {M1 : Mod} (h : KAlone n K0 t s S M c e S1 M1) (he : e ≤ 1000) (hev : (Yc (.new t c) s e).1.hasEv = false) :
 LSpec Tryz.prog 62 [.p 0 10 0 0,V.int t,c.v] (ZE s 2) 5 ((Yc (.new t c) s e).1.resW (.c (.slice none 0 0))) (ZE (Yc (.new t c) s e).2 5) 6:=
 Zu3 (fun k=>(Yc (.new t c) s k).1) (fun k=>(Yc (.new t c) s k).2) e t c ⟨h.e1,he⟩ rfl h.st hev
theorem KAlone.doT {n K0 t : Nat} {s : Sto} {S : List Item} {M : Mod} {c : Cl} {e : Nat} {S1 : List Item} {M1 : Mod} (h : KAlone n K0 t s S M c e S1 M1) (he : e ≤ 1000) (hev : (Yc (.new t c) s e).1.hasEv = true) :
 LSpec Tryz.prog 62 [.p 0 10 0 0,V.int t,c.v] (ZE s 2) 5 ((Yc (.new t c) s e).1.resW (.ac 6 2 (Yc (.new t c) s e).1.evl.length)) (ZE (Yc (.new t c) s e).2 5 ++ [(6,.dat 2 ((Yc (.new t c) s e).1.evl.map evD))]) 7:=
 Zu1 (fun k=>(Yc (.new t c) s k).1) (fun k=>(Yc (.new t c) s k).2) e t c ⟨h.e1,he⟩ rfl h.st hev
theorem KAlone.len {n K0 t : Nat} {s : Sto} {S : List Item} {M : Mod} {c : Cl} {e : Nat} {S1 : List Item} {M1 : Mod} (h : KAlone n K0 t s S M c e S1 M1) {k : Nat} (h1 : (Yc (.new t c) s k).1.done = true) (h2 : ∀ j,j < k → (Yc (.new t c) s j).1.done = false) : e = k:=by
 rcases Nat.lt_trichotomy e k with hk | hk | hk
 · have:=h2 e hk;rw [h.dn] at this;cases this
 · exact hk
 · have:=h.nd k hk;rw [h1] at this;cases this
end Go.Proofs.YtdjnjchpgccbiaaGreat.Abs
