/- law14: the fixed example. -/
import Derived.Test.YtdjnjchpgccbiaaGreatNC
import Derived.Test.YtdjnjchpgccbiaaGreatJB
namespace Go.Proofs.YtdjnjchpgccbiaaGreat.Abs
open Go.Proofs
set_option maxRecDepth 10000
set_option linter.unusedSimpArgs false
set_option linter.unusedVariables false
theorem eqlN (a b : Res) (hl : a.evs.length < 9223372036854775807) : PSpecN Tryz.prog 20 [a.v,b.v] (V.bool (decide (a = b))):=(refEqualC a b hl).new rfl
theorem evts_rows (l : List (Int × Int)) : (evts l).map Evt.row = l.map evD:=by unfold evts;rw [List.map_map];rfl
theorem eqlB (e : Int) (ev : List (Int × Int)) (b : Res) (hl : ev.length < 1000) : PSpecN Tryz.prog 20 [.agg [V.int e,V.int 0,V.bool false,.lst 2 (ev.map evD) false],b.v] (V.bool (decide ((⟨e,0,false,evts ev⟩ : Res) = b))):=by
 have h1:=eqlN ⟨e,0,false,evts ev⟩ b (by show (evts ev).length < _;unfold evts;rw [List.length_map];omega)
 rw [← evts_rows]
 exact h1
set_option maxHeartbeats 8000000 in
theorem head14_aux (s q : Sto) (P1 P2 : Nat → BOp) (Q1 Q2 : Nat → Sto) (m2 : Nat) (b1 : BOp) (S2 : List Item)
 (hp1 : LSpec Tryz.prog 13 [V.int 3,opsSV []] [] 0 (.tup [.p 0 10 0 0,.p 5 10 0 0]) (stoB s 2 ++ rstoAt s 5 7) 10)
 (hp2 : LSpec Tryz.prog 13 [V.int 3,opsSV [⟨0,7,true⟩,⟨0,5,true⟩,⟨3,1,false⟩]] [] 0 (.tup [.p 0 10 0 0,.p 5 10 0 0]) (stoB q 2 ++ rstoAt q 5 7) 10)
 (h10 : P1 0 = .new 1 ⟨3,0,0,3,100⟩) (q10 : Q1 0 = s) (st1 : ∀ k,k < 9 → BStepL (P1 k) (Q1 k) (decide (k + 1 = 9)) (P1 (k + 1)) (Q1 (k + 1))) (r1 : (P1 9).e = 0 ∧ (P1 9).rv = true ∧ (P1 9).ev = [])
 (h20 : P2 0 = .new 1 ⟨3,0,0,1,100⟩) (q20 : Q2 0 = q) (hm2 : 1 ≤ m2 ∧ m2 ≤ 50) (st2 : ∀ k,k < m2 → BStepL (P2 k) (Q2 k) (decide (k + 1 = m2)) (P2 (k + 1)) (Q2 (k + 1))) (r2 : (P2 m2).e = 0 ∧ (P2 m2).rv = true ∧ (P2 m2).ev = [(7,0)])
 (hit : LSpec Tryz.prog 30 [.p 0 10 0 0] (stoB (Q2 m2) 2) 5 (itemsV S2) (stoB (Q2 m2) 2) 5) (hS2 : S2.length = 0) (hv : (Q2 m2).m.viol = 0)
 (hb : BStepL (.new 1 ⟨3,0,0,65,0⟩) (Q2 m2) true b1 (Q2 m2)) (hb1 : b1.e = 1 ∧ b1.rv = false) :
 PSpec Tryz.prog 25 [] (V.bool true):=by
 have run1:=bRunC P1 Q1 9 50 (by omega) st1
 have run2:=bRunC P2 Q2 m2 50 (by omega) st2
 rw [h10,q10] at run1
 rw [h20,q20] at run2
 have e1 : bRes (P1 9) 2 = .agg [V.int 0,V.int 0,V.bool false,.ac 2 2 (P1 9).ev.length]:=by unfold bRes;rw [r1.1,r1.2.1];rfl
 have e2 : bRes (P2 m2) 2 = .agg [V.int 0,V.int 0,V.bool false,.ac 2 2 (P2 m2).ev.length]:=by unfold bRes;rw [r2.1,r2.2.1];rfl
 have q1 : (⟨0,0,false,evts (P1 9).ev⟩ : Res) = ⟨0,0,false,[]⟩:=by rw [r1.2.2];rfl
 have q2 : (⟨0,0,false,evts (P2 m2).ev⟩ : Res) = ⟨0,0,false,[⟨7,0⟩]⟩:=by rw [r2.2.2];rfl
 have res1:=bResultC (P1 9) (Q1 9)
 have res2:=bResultC (P2 m2) (Q2 m2)
 have res3:=bResultC b1 (Q2 m2)
 rw [e1] at res1
 rw [e2] at res2
 refine pspec tab_ok mix Tryz.func25 (by kernel_rfl) rfl rfl ?_
 (refine go ?_; try exact True.intro)
 refine callL hp1 [] [] rfl (go ?_)
 refine callL hp2 [] [] rfl (go ?_)
 refine callL (bNewC s 1 ⟨3,0,0,3,100⟩) [some 64,some 65,some 66,some 67,some 68] [] rfl (go ?_)
 refine callL (bNewC q 1 ⟨3,0,0,1,100⟩) [some 704,some 705,some 706,some 707,some 708] [] rfl (go ?_)
 refine callL (bNewC q 1 ⟨3,0,0,65,0⟩) [some 704,some 705,some 706,some 707,some 708] [] rfl (go ?_)
 refine callO run1 [some 1600,some 1601,some 1602,some 64,some 65,some 66,some 67,some 68] [] _ _ _ (bB0_at (ν:=fun x=>match x with | 0=>1600 | x=>1600 + x) (.new 1 ⟨3,0,0,3,100⟩) s (by decide) rfl rfl rfl rfl rfl) (bB1_at (ν:=fun x=>match x with | 0=>1600 | x=>2943 + x) (P1 9) (Q1 9) rfl (by decide) rfl rfl rfl rfl rfl) rfl rfl (go ?_)
 refine callO run2 [some 1856,some 1857,some 1858,some 704,some 705,some 706,some 707,some 708] [] _ _ _ (bB0_at (ν:=fun x=>match x with | 0=>1856 | x=>1856 + x) (.new 1 ⟨3,0,0,1,100⟩) q (by decide) rfl rfl rfl rfl rfl) (bB1_at (ν:=fun x=>match x with | 0=>1856 | x=>3135 + x) (P2 m2) (Q2 m2) rfl (by decide) rfl rfl rfl rfl rfl) rfl rfl (go ?_)
 rw [decide_eq_true (show (0 : Int) < m2 by omega)]
 (refine go ?_; try exact True.intro)
 refine callO res1 [some 1600,some 2944,some 2945,some 64,some 65,some 2946,some 67,some 68] [] _ _ _ (bB0_at (ν:=fun x=>match x with | 0=>1600 | x=>2943 + x) (P1 9) (Q1 9) (by decide) rfl rfl rfl rfl rfl) (bB0_at (ν:=fun x=>match x with | 0=>1600 | x=>2943 + x) (P1 9) (Q1 9) (by decide) rfl rfl rfl rfl rfl) rfl rfl (go ?_)
 have q3:=eqlB 0 (P1 9).ev ⟨0,0,false,[]⟩ (by rw [r1.2.2];decide)
 rw [decide_eq_true q1] at q3
 refine callN q3 (go ?_)
 refine callO res2 [some 1856,some 3136,some 3137,some 704,some 705,some 3138,some 707,some 708] [] _ _ _ (bB0_at (ν:=fun x=>match x with | 0=>1856 | x=>3135 + x) (P2 m2) (Q2 m2) (by decide) rfl rfl rfl rfl rfl) (bB0_at (ν:=fun x=>match x with | 0=>1856 | x=>3135 + x) (P2 m2) (Q2 m2) (by decide) rfl rfl rfl rfl rfl) rfl rfl (go ?_)
 have q4:=eqlB 0 (P2 m2).ev ⟨0,0,false,[⟨7,0⟩]⟩ (by rw [r2.2.2];decide)
 rw [decide_eq_true q2] at q4
 refine callN q4 (go ?_)
 refine callL hit [some 704,some 705,some 3138,some 707,some 708] [] rfl (go ?_)
 rw [decide_eq_true (show ((S2.map Item.row).length : Int) = 0 by rw [List.length_map,hS2];rfl)]
 (refine go ?_; try exact True.intro)
 refine callL (memoryC (Q2 m2)) [some 704,some 705,some 3138,some 707,some 708] [] rfl (go ?_)
 refine callL (violC (Q2 m2).m) [some 705,some 3138,some 707,some 708] [] rfl (go ?_)
 rw [decide_eq_true hv]
 (refine go ?_; try exact True.intro)
 refine callO hb [some 2112,some 2113,some 2114,some 704,some 705,some 3138,some 707,some 708] [] _ _ _ (bB0_at (ν:=fun x=>match x with | 0=>2112 | x=>2112 + x) (.new 1 ⟨3,0,0,65,0⟩) (Q2 m2) (by decide) rfl rfl rfl rfl rfl) (bB1_at (ν:=fun x=>match x with | 0=>2112 | x=>5439 + x) b1 (Q2 m2) rfl (by decide) rfl rfl rfl rfl rfl) rfl rfl (go ?_)
 have e3 : bRes b1 2 = .agg [V.int 1,V.int 0,V.bool false,rvV false b1.ev 2]:=by unfold bRes;rw [hb1.1,hb1.2]
 rw [e3] at res3
 refine callO res3 [some 2112,some 5440,some 5441,some 704,some 705,some 5442,some 707,some 708] [] _ _ _ (bB0_at (ν:=fun x=>match x with | 0=>2112 | x=>5439 + x) b1 (Q2 m2) (by decide) rfl rfl rfl rfl rfl) (bB0_at (ν:=fun x=>match x with | 0=>2112 | x=>5439 + x) b1 (Q2 m2) (by decide) rfl rfl rfl rfl rfl) rfl rfl (go ?_)
 exact .same rfl
theorem refer3L {n : Nat} {s : Sto} {S : List Item} {K : Nat} (h : SB n s S (fun _=>False) K) (hK : K + 4 ≤ 20000) (hh : s.all4 0) (o : OpS) (ho : o.Ok) (hk : o.kind.tmod 5 = 3) {i : Nat} (hi : o.at'.tmod (n : Int) = (i : Int)) (hin : i < n) (e : s.m.word (i + 1) = 4 * (s.m.word (i + 1) / 4) + 1) :
 (∃ r,ReferC o n s r { s with m:=s.m.put 0 3 (i + 1) (4 * (s.m.word (i + 1) / 4) + 3) true }) ∧ ∃ r,StepR n o s K r { s with m:=s.m.put 0 3 (i + 1) (4 * (s.m.word (i + 1) / 4) + 3) true } S:=by
 have hn:=h.n12
 have c1:=refer3S h o ho hk hi hin
 have c2:=refer3R h o ho hk hi hin
 have hwl : i + 1 < s.m.words.length:=by rw [h.nw];omega
 have hwd:=h.wd i hin
 have hkb:=h.kb
 have e1 : s.m.cas 0 (i + 1) (4 * (s.m.word (i + 1) / 4) + 1) (4 * (s.m.word (i + 1) / 4) + 3) = (s.m.put 0 3 (i + 1) (4 * (s.m.word (i + 1) / 4) + 3) true,true):=by unfold Mem.cas;rw [if_pos e]
 rw [e1] at c1 c2
 refine ⟨⟨_,c1,c2⟩,0,?_⟩
 clear c1 c2
 have hlive : s.st i ≠ 0:=by unfold Sto.st;omega
 have hm:=h.toSOk.mark hin hlive 0 3 true (v:=4 * (s.m.word (i + 1) / 4) + 3) (by unfold Sto.gn;omega) (by omega)
 refine ⟨⟨hm.mono (by omega) hK,?_,?_⟩,hh,rfl,fun j hj=>?_,fun hx=>by omega⟩
 · have:=h.log;simp [Mem.put];omega
 · have:=h.viol;show 0 ≤ s.m.viol ∧ s.m.viol ≤ _;omega
 · obtain ⟨m1,m2⟩:=mark_word hwl 0 3 true (v:=4 * (s.m.word (i + 1) / 4) + 3) (by unfold Sto.gn;omega) j
   rw [m1,m2]
   refine ⟨Int.le_refl _,fun x=>.inl ?_⟩
   split
   · omega
   · exact x
def e14a : Sto:={ (heldN 3 4).alloc1 0 7 [2,1] 0 with q:=insLad (heldN 3 4).q (((heldN 3 4).alloc1 0 7 [2,1] 0).item 0) }
def e14b : Sto:={ e14a.alloc1 0 5 [2] 1 with q:=insLad e14a.q ((e14a.alloc1 0 5 [2] 1).item 1) }
def e14c : Sto:={ e14b with m:=e14b.m.put 0 3 2 3 true }
def e14 : Sto:={ e14c with m:=unlockN e14c.m 4 }
def z14 : Sto:={ heldN 3 4 with m:=unlockN (heldN 3 4).m 4 }
def ops14 : List OpS:=[⟨0,7,true⟩,⟨0,5,true⟩,⟨3,1,false⟩]
theorem ops14_ok : ∀ o ∈ ops14,o.Ok:=fun o ho=>by
 unfold ops14 at ho
 simp only [List.mem_cons,List.not_mem_nil,or_false] at ho
 rcases ho with rfl | rfl | rfl <;> exact ⟨by decide,by decide⟩
theorem prep14z : LSpec Tryz.prog 13 [V.int 3,opsSV []] [] 0 (.tup [.p 0 10 0 0,.p 5 10 0 0]) (stoB z14 2 ++ rstoAt z14 5 7) 10 ∧ Ready 3 z14 []:=by
 have hn : 1 ≤ 3 ∧ 3 ≤ 12:=by decide
 have hr:=runOk_zero hn []
 have h1:=preparedG hn [] (fun _=>(heldN 3 4,[])) rfl (fun i h1 h2=>by
  have h1 : i ≤ 0:=h1
  obtain rfl : i = 0:=by omega
  exact hr) (fun i h1=>absurd h1 (Nat.not_lt_zero i))
 exact ⟨h1,ready_of hr.ok (by decide) hr.held hr.viol (by decide)⟩
theorem prep14 : ∃ S,LSpec Tryz.prog 13 [V.int 3,opsSV ops14] [] 0 (.tup [.p 0 10 0 0,.p 5 10 0 0]) (stoB e14 2 ++ rstoAt e14 5 7) 10 ∧ Ready 3 e14 S:=by
 have hn : 1 ≤ 3 ∧ 3 ≤ 12:=by decide
 have h0:=runOk_zero hn ops14
 obtain ⟨⟨a1,_⟩,T1,a2⟩:=refer0L h0.ok (by decide) h0.held ⟨0,7,true⟩ (ops14_ok _ (by simp [ops14])) (.inl rfl) (l:=[2,1]) (i:=0) rfl (by decide) (by decide)
 have k1:=h0.next (show 0 < 3 by decide) a2
 have a1 : ReferC ⟨0,7,true⟩ 3 (heldN 3 4) _ e14a:=a1
 have k1 : RunOk 3 ops14 ⟨1,e14a,T1⟩:=k1
 obtain ⟨⟨b1,_⟩,T2,b2⟩:=refer0L k1.ok (show 4 * 1 + 4 ≤ 20000 by decide) k1.held ⟨0,5,true⟩ (ops14_ok _ (by simp [ops14])) (.inl rfl) (l:=[2]) (i:=1) (show e14a.idle = [2] ++ [((1 : Nat) : Int)] by decide) (by decide) (show e14a.st 1 = 0 by decide)
 have k2:=k1.next (show 1 < 3 by decide) b2
 have b1 : ReferC ⟨0,5,true⟩ 3 e14a _ e14b:=b1
 have k2 : RunOk 3 ops14 ⟨2,e14b,T2⟩:=k2
 have w2 : e14b.m.word (1 + 1) = 1:=by decide
 obtain ⟨⟨r3,c1⟩,r4,c2⟩:=refer3L k2.ok (show 4 * 2 + 4 ≤ 20000 by decide) k2.held ⟨3,1,false⟩ (ops14_ok _ (by simp [ops14])) rfl (i:=1) (by decide) (by decide) (by show e14b.m.word (1 + 1) = 4 * (e14b.m.word (1 + 1) / 4) + 1;rw [w2];decide)
 have e3 : ({ e14b with m:=e14b.m.put 0 3 (1 + 1) (4 * (e14b.m.word (1 + 1) / 4) + 3) true } : Sto) = e14c:=by rw [w2];rfl
 rw [e3] at c1 c2
 have k3:=k2.next (show 2 < 3 by decide) c2
 have k3 : RunOk 3 ops14 ⟨3,e14c,T2⟩:=k3
 have h1:=preparedG hn ops14 (fun i=>match i with | 0=>(heldN 3 4,[]) | 1=>(e14a,T1) | 2=>(e14b,T2) | _=>(e14c,T2)) rfl
  (fun i h1 h2=>by
   have h1 : i ≤ 3:=h1
   rcases (show i = 0 ∨ i = 1 ∨ i = 2 ∨ i = 3 by omega) with rfl | rfl | rfl | rfl
   · exact h0
   · exact k1
   · exact k2
   · exact k3)
  (fun i h1 h2 o hoo=>by
   have h1 : i < 3:=h1
   rcases (show i = 0 ∨ i = 1 ∨ i = 2 by omega) with rfl | rfl | rfl
   · cases hoo;exact ⟨_,a1⟩
   · cases hoo;exact ⟨_,b1⟩
   · cases hoo;exact ⟨_,c1⟩)
 exact ⟨T2,h1,ready_of k3.ok (show 4 * 3 ≤ 240 by decide) k3.held k3.viol (by decide)⟩
theorem bat_steps {n K0 t : Nat} {s0 : Sto} {S0 : List Item} {M0 : Mod} {c : Cl} {e : Nat} (hc : c.k = 3) (h : Alone n K0 t s0 S0 M0 c e) (hK : K0 + 50 ≤ 20000) (he : e ≤ 45) :
 (∀ k,k < e → BStepL (runB (.new t c) s0 k).1 (runB (.new t c) s0 k).2 (decide (k + 1 = e)) (runB (.new t c) s0 (k + 1)).1 (runB (.new t c) s0 (k + 1)).2) ∧ ∀ k,k < e → (runB (.new t c) s0 k).1.done = false:=by
 have e0 : Kop.new (t : Int) c = .bat (.new t c):=by unfold Kop.new;rw [if_neg (by rw [hc];decide),if_neg (by rw [hc];decide),if_pos hc]
 have hd : ∀ k,k < e → (runB (.new t c) s0 k).1.done = false:=fun k hk=>by
  have h1:=(h.run k hk).1
  rw [e0,runK_bat] at h1
  exact h1
 have hl : (runB (.new t c) s0 e).1.done = true:=by
  have h1:=h.dn
  rw [e0,runK_bat] at h1
  exact h1
 refine ⟨fun k hk=>?_,hd⟩
 obtain ⟨_,h2⟩:=h.run k hk
 rw [e0,runK_bat] at h2
 obtain ⟨S,A,S',A',h3,h4,h5,_⟩:=h2.run
 have h6:=bStepC h3 (by omega) h4 (show KBat n _ S A _ from h5)
 rw [show (((runB (.new t c) s0 k).1.step (runB (.new t c) s0 k).2).1.done) = decide (k + 1 = e) by
  show (runB (.new t c) s0 (k + 1)).1.done = _
  by_cases hz : k + 1 = e
  · rw [hz,hl,decide_eq_true rfl]
  · rw [hd (k + 1) (by omega),decide_eq_false hz]] at h6
 exact h6
theorem modS_rd (n : Nat) (s : Sto) (S : List Item) : RdM n s S (modS n s S):=⟨rfl,rfl,rfl,fun h y=>by cases y⟩
theorem bad14 (s : Sto) : (BOp.new 1 ⟨3,0,0,65,0⟩).step s = ({ BOp.new 1 ⟨3,0,0,65,0⟩ with e:=1,eff:=true,blk:=false },s):=by
 unfold BOp.step
 rw [if_pos (by decide)]
theorem head14C : PSpec Tryz.prog 25 [] (V.bool true):=by
 obtain ⟨p1,r1⟩:=prep14z
 obtain ⟨S,p2,r2⟩:=prep14
 have y1:=Rdy.of r1
 have y2:=Rdy.of r2
 obtain ⟨e,a1⟩:=alone_run y1 (modS_rd 3 z14 []) 1 ⟨3,0,0,3,100⟩ (by decide)
 obtain ⟨f,a2⟩:=alone_run y2 (modS_rd 3 e14 S) 1 ⟨3,0,0,1,100⟩ (by decide)
 have hf2:=a2.e2
 have he2:=a1.e2
 have hS : S.length ≤ 3:=r2.ok.toSOk.len
 have g1:=(bat_steps rfl a1 (by decide) (by simp at he2;omega))
 have g2:=(bat_steps rfl a2 (by decide) (by omega))
 have he : e = 9:=by
  have d9 : (runB (.new 1 ⟨3,0,0,3,100⟩) z14 9).1.done = true:=by decide
  have h1 : ¬ 9 < e:=fun hh=>by have:=g1.2 9 hh;rw [show ((1 : Nat) : Int) = 1 from rfl,d9] at this;cases this
  have dl:=a1.dn
  rw [show Kop.new ((1 : Nat) : Int) ⟨3,0,0,3,100⟩ = .bat (.new 1 ⟨3,0,0,3,100⟩) from rfl,runK_bat] at dl
  have dl : (runB (.new 1 ⟨3,0,0,3,100⟩) z14 e).1.done = true:=dl
  have h2 : ∀ k,k < 9 → (runB (.new 1 ⟨3,0,0,3,100⟩) z14 k).1.done = false:=by decide
  by_cases h3 : e < 9
  · rw [h2 e h3] at dl;cases dl
  · omega
 have hf : f = 14:=by
  have d9 : (runB (.new 1 ⟨3,0,0,1,100⟩) e14 14).1.done = true:=by decide
  have h1 : ¬ 14 < f:=fun hh=>by have:=g2.2 14 hh;rw [show ((1 : Nat) : Int) = 1 from rfl,d9] at this;cases this
  have dl:=a2.dn
  rw [show Kop.new ((1 : Nat) : Int) ⟨3,0,0,1,100⟩ = .bat (.new 1 ⟨3,0,0,1,100⟩) from rfl,runK_bat] at dl
  have dl : (runB (.new 1 ⟨3,0,0,1,100⟩) e14 f).1.done = true:=dl
  have h2 : ∀ k,k < 14 → (runB (.new 1 ⟨3,0,0,1,100⟩) e14 k).1.done = false:=by decide
  by_cases h3 : f < 14
  · rw [h2 f h3] at dl;cases dl
  · omega
 subst he hf
 obtain ⟨S2,M2,y3,_,_⟩:=a2.fin
 have y3:=y3
 rw [show Kop.new ((1 : Nat) : Int) ⟨3,0,0,1,100⟩ = .bat (.new 1 ⟨3,0,0,1,100⟩) from rfl,runK_bat] at y3
 have y3 : Rdy 3 (241 + 14) (runB (.new 1 ⟨3,0,0,1,100⟩) e14 14).2 S2:=y3
 have v1 : (runB (.new 1 ⟨3,0,0,3,100⟩) z14 9).1.e = 0 ∧ (runB (.new 1 ⟨3,0,0,3,100⟩) z14 9).1.rv = true ∧ (runB (.new 1 ⟨3,0,0,3,100⟩) z14 9).1.ev = []:=by decide
 have v2 : (runB (.new 1 ⟨3,0,0,1,100⟩) e14 14).1.e = 0 ∧ (runB (.new 1 ⟨3,0,0,1,100⟩) e14 14).1.rv = true ∧ (runB (.new 1 ⟨3,0,0,1,100⟩) e14 14).1.ev = [(7,0)]:=by decide
 have v3 : (runB (.new 1 ⟨3,0,0,1,100⟩) e14 14).2.m.viol = 0:=by decide
 have v4 : liveN (runB (.new 1 ⟨3,0,0,1,100⟩) e14 14).2.pics = 0:=by decide
 have hlen : S2.length = 0:=by rw [y3.ok.toSOk.items_len,v4]
 have hnew:=Kop.new_ok (n:=3) (K:=255) (s:=(runB (.new 1 ⟨3,0,0,1,100⟩) e14 14).2) (S:=S2) (A:=fun _=>False) (th:=1) (by decide) ⟨3,0,0,65,0⟩
 have hbad:=bStepC y3.ok (by decide) y3.thr (show KBat 3 _ S2 (fun _=>False) (.new 1 ⟨3,0,0,65,0⟩) from hnew.1)
 rw [bad14] at hbad
 exact head14_aux z14 e14 (fun k=>(runB (.new 1 ⟨3,0,0,3,100⟩) z14 k).1) (fun k=>(runB (.new 1 ⟨3,0,0,1,100⟩) e14 k).1) (fun k=>(runB (.new 1 ⟨3,0,0,3,100⟩) z14 k).2) (fun k=>(runB (.new 1 ⟨3,0,0,1,100⟩) e14 k).2) 14 _ S2
  p1 p2 rfl rfl g1.1 v1 rfl rfl (by decide) g2.1 v2 y3.ok.shown.items hlen v3 hbad ⟨rfl,rfl⟩
end Go.Proofs.YtdjnjchpgccbiaaGreat.Abs
