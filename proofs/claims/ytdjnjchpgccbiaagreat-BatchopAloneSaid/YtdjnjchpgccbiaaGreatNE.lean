/- law14: a batch that runs alone in a prepared store: the law's walk. -/
import Derived.Test.YtdjnjchpgccbiaaGreatND
import Derived.Test.YtdjnjchpgccbiaaGreatFA
import Derived.Test.YtdjnjchpgccbiaaGreatHB
namespace Go.Proofs.YtdjnjchpgccbiaaGreat.Abs
open Go.Proofs
set_option maxRecDepth 10000
set_option linter.unusedSimpArgs false
set_option linter.unusedVariables false
def lateB (o : BOp) : Int:=if (Kop.bat o).late = true then 1 else 0
set_option maxHeartbeats 16000000 in
theorem bAloneG (c : Int) (l : List OpS) (most bound : Int) (hmb : 0 ≤ most ∧ most ≤ 255) {n : Nat} (hn : 1 ≤ n ∧ n ≤ 12) (s0 : Sto) (S S1 : List Item) (hsz : PSpec Tryz.prog 14 [.c (.int .u8 c)] (V.int n)) (hhd : PSpec Tryz.prog 25 [] (V.bool true))
 (hp : LSpec Tryz.prog 13 [V.int n,opsSV l] [] 0 (.tup [.p 0 10 0 0,.p 5 10 0 0]) (stoB s0 2 ++ rstoAt s0 5 7) 10) {K0 K1 : Nat} (hr : Rdy n K0 s0 S) (P : Nat → BOp) (Q : Nat → Sto) (m : Nat) (hm : 1 ≤ m ∧ m ≤ 3 * S.length + 9) (hP0 : P 0 = .new 2 ⟨3,0,0,mostB most,bound⟩) (hQ0 : Q 0 = s0)
 (hst : ∀ k,k < m → BStepL (P k) (Q k) (decide (k + 1 = m)) (P (k + 1)) (Q (k + 1))) (hbl : ∀ k,k < m → (P (k + 1)).blk = false) (hef : ∀ k,k < m → (P (k + 1)).eff = (!(Kop.bat (P k)).late && (Kop.bat (P (k + 1))).late)) (hlt : ∀ k,k < m → (Kop.bat (P k)).late = true → (Kop.bat (P (k + 1))).late = true) (hl0 : (Kop.bat (P 0)).late = false) (hlm : (Kop.bat (P m)).late = true)
 (hy : Rdy n K1 (Q m) S1) (hd : doM (modS n s0 S) (⟨3,0,0,mostB most,bound⟩ : Cl).cal 0 = (modS n (Q m) S1,(Kop.bat (P m)).res)) (hev : (P m).ev.length < 1000) :
 PSpec Tryz.prog 6 [.c (.int .u8 c),opsSV l,.c (.int .u8 most),V.int bound] (V.bool true):=by
 have hcal:=callBC most bound hmb
 have hSl : S.length ≤ 12:=by have:=hr.ok.toSOk.len;omega
 generalize mostB most = mm at *
 refine pspec tab_ok mix Tryz.func6 (by kernel_rfl) rfl rfl ?_
 (refine go ?_; try exact True.intro)
 refine callB hhd (go ?_)
 refine callB hsz (go ?_)
 refine callL hp [] [] rfl (go ?_)
 refine callL (modelC hr) [some 384,some 385,some 386,some 387,some 388] [] rfl (go ?_)
 refine callL (itemsH hr.ok) [some 384,some 385,some 386,some 387,some 388] [] rfl (go ?_)
 refine callB hcal (go ?_)
 refine callL (bNewC s0 2 ⟨3,0,0,mm,bound⟩) [some 384,some 385,some 386,some 387,some 388] [] rfl (go ?_)
 refine loopO tab_ok mix [20,21,22] [2,3,9,10,12,13] [1024] (fun k : Nat=>[(14,.p 20 22 0 0),(17,V.int k),(16,V.int (lateB (P k))),(15,V.bool (decide (k = m)))]) (fun k=>bl3 (P k) 384 (fun x=>20 + x) ++ sto5 (Q k) 384 385 1 387 388) (fun k=>k ≤ m) (fun k=>m - k) [(1,386),(20,1664),(21,1665),(22,1666)] 0 rfl (by omega) ?_ ?_
 · rw [hP0,hQ0]
   (refine go ?_; try exact True.intro)
   iterate 3 (refine boBat (o:=.new 2 ⟨3,0,0,mm,bound⟩) (st:=384) (ν:=fun x=>20 + x) (fun x=>1664 + x) ?_ (by rfl) (by rfl) (by decide) (by decide) (by decide);(refine go ?_; try exact True.intro))
 intro k hk
 (refine go ?_; try exact True.intro)
 rw [List.length_map]
 (refine go ?_; try exact True.intro)
 rw [decide_eq_true (show (k : Int) < 3 * S.length + 10 by omega)]
 (refine go ?_; try exact True.intro)
 rw [decide_eq_true (show (k : Int) < 1000 by omega)]
 (refine go ?_; try exact True.intro)
 by_cases hz : k < m
 case neg=>
  obtain rfl : k = m:=by omega
  rw [show decide (k = k) = true by simp]
  (refine go ?_; try exact True.intro)
  refine dcallB hcal (go ?_)
  refine dcallC (refDoB (modS n s0 S) (⟨3,0,0,mm,bound⟩ : Cl).cal 0 rfl ⟨by show ((sls S).map s0.ent).length < _;simp [sls];omega,by show 0 < 1000000;decide⟩) ?_
  rw [show doM (modS n s0 S) (⟨3,0,0,mm,bound⟩ : Cl).cal 0 = _ from hd]
  (refine go ?_; try exact True.intro)
  refine callL (modelC hy) [some 384,some 385,some 1,some 387,some 388] [] rfl (go ?_)
  have hl1 : lateB (P k) = 1:=by unfold lateB;rw [hlm];rfl
  rw [decide_eq_true hl1]
  (refine go ?_; try exact True.intro)
  have hsame:=refSameC (modS n (Q k) S1) (modS n (Q k) S1) ⟨by show ((sls S1).map (Q k).ent).length < _;have:=hy.ok.toSOk.len;simp [sls];omega,by show 0 < 1000000;decide⟩
  rw [decide_eq_true rfl] at hsame
  have hres:=bResultC (P k) (Q k)
  cases hrv : (P k).rv with
  | true=>
   have e1 : bRes (P k) 2 = .agg [V.int (P k).e,V.int 0,V.bool false,.ac 2 2 (P k).ev.length]:=by unfold bRes;rw [hrv];rfl
   have e2 : (⟨(P k).e,0,false,evts (P k).ev⟩ : Res) = (Kop.bat (P k)).res:=by show _ = (⟨_,_,_,_⟩ : Res);rw [if_pos hrv]
   have q:=eqlB (P k).e (P k).ev (Kop.bat (P k)).res hev
   rw [decide_eq_true e2] at q
   rw [e1] at hres
   generalize (P k).e = e at *
   refine dcallRO hres [some 20,some 21,some 22,some 384,some 385,some 1,some 387,some 388] _ _ (bB0_at (ν:=fun x=>20 + x) (P k) (Q k) (by decide) rfl rfl rfl rfl rfl) rfl (go ?_)
   refine dcallN q (go ?_)
   refine dcallC hsame (go ?_)
   refine dcallR (arenaH hy.ok) [some 384,some 385,some 1,some 387,some 388] rfl rfl (go ?_)
   refine dcallB (valid05C _ _ _ hy.ok.toSOk.arOk) (go ?_)
   exact .same rfl
  | false=>
   have e1 : bRes (P k) 2 = .agg [V.int (P k).e,V.int 0,V.bool false,.c (.slice none 0 0)]:=by unfold bRes;rw [hrv];rfl
   have e2 : (⟨(P k).e,0,false,[]⟩ : Res) = (Kop.bat (P k)).res:=by show _ = (⟨_,_,_,_⟩ : Res);rw [hrv,if_neg Bool.false_ne_true]
   have q:=eqlN ⟨(P k).e,0,false,[]⟩ (Kop.bat (P k)).res (show 0 < 9223372036854775807 by decide)
   rw [decide_eq_true e2] at q
   rw [e1] at hres
   generalize (P k).e = e at *
   refine dcallRO hres [some 20,some 21,some 22,some 384,some 385,some 1,some 387,some 388] _ _ (bB0_at (ν:=fun x=>20 + x) (P k) (Q k) (by decide) rfl rfl rfl rfl rfl) rfl (go ?_)
   refine dcallN q (go ?_)
   refine dcallC hsame (go ?_)
   refine dcallR (arenaH hy.ok) [some 384,some 385,some 1,some 387,some 388] rfl rfl (go ?_)
   refine dcallB (valid05C _ _ _ hy.ok.toSOk.arOk) (go ?_)
   exact .same rfl
 rw [decide_eq_false (show ¬ k = m by omega)]
 (refine go ?_; try exact True.intro)
 have a1:=hst k hz
 have a2:=hbl k hz
 have a3:=hef k hz
 have a4:=hlt k hz
 refine callO a1 [some 20,some 21,some 22,some 384,some 385,some 1,some 387,some 388] [] _ _ _ (bB0_at (ν:=fun x=>20 + x) (P k) (Q k) (by decide) rfl rfl rfl rfl rfl) (bB1_at (ν:=fun x=>match x with | 0=>20 | x=>3007 + x) (P (k + 1)) (Q (k + 1)) rfl (by decide) rfl rfl rfl rfl rfl) rfl rfl (go ?_)
 refine callO (bBlockedC (P (k + 1)) (Q (k + 1))) [some 20,some 3008,some 3009,some 384,some 385,some 3010,some 387,some 388] [] _ _ _ (bB0_at (ν:=fun x=>match x with | 0=>20 | x=>3007 + x) (P (k + 1)) (Q (k + 1)) (by decide) rfl rfl rfl rfl rfl) (bB0_at (ν:=fun x=>match x with | 0=>20 | x=>3007 + x) (P (k + 1)) (Q (k + 1)) (by decide) rfl rfl rfl rfl rfl) rfl rfl ?_
 rw [a2]
 (refine go ?_; try exact True.intro)
 refine callO (bEffectC (P (k + 1)) (Q (k + 1))) [some 20,some 3008,some 3009,some 384,some 385,some 3010,some 387,some 388] [] _ _ _ (bB0_at (ν:=fun x=>match x with | 0=>20 | x=>3007 + x) (P (k + 1)) (Q (k + 1)) (by decide) rfl rfl rfl rfl rfl) (bB0_at (ν:=fun x=>match x with | 0=>20 | x=>3007 + x) (P (k + 1)) (Q (k + 1)) (by decide) rfl rfl rfl rfl rfl) rfl rfl ?_
 rw [a3]
 have hlb : lateB (P k) = 0 ∨ lateB (P k) = 1:=by unfold lateB;split <;> simp
 cases hl : (Kop.bat (P k)).late with
 | true=>
  rw [a4 hl]
  (refine go ?_; try exact True.intro)
  refine .mk [(1,3010),(21,3008),(22,3009)] (k + 1) (by omega) (by omega) (go ?_)
  refine cb (show lateB (P k) = lateB (P (k + 1)) by unfold lateB;rw [hl,a4 hl]) (go ?_)
  iterate 3 (refine boBat (o:=P (k + 1)) (st:=384) (ν:=fun x=>20 + x) (fun x=>match x with | 0=>20 | x=>3007 + x) ?_ (by rfl) (by rfl) (by decide) (by decide) (by decide);(refine go ?_; try exact True.intro))
 | false=>
  cases hl1 : (Kop.bat (P (k + 1))).late with
  | true=>
   (refine go ?_; try exact True.intro)
   refine .mk [(1,3010),(21,3008),(22,3009)] (k + 1) (by omega) (by omega) (go ?_)
   refine cb (show lateB (P k) + 1 = lateB (P (k + 1)) by unfold lateB;rw [hl,hl1];rfl) (go ?_)
   iterate 3 (refine boBat (o:=P (k + 1)) (st:=384) (ν:=fun x=>20 + x) (fun x=>match x with | 0=>20 | x=>3007 + x) ?_ (by rfl) (by rfl) (by decide) (by decide) (by decide);(refine go ?_; try exact True.intro))
  | false=>
   (refine go ?_; try exact True.intro)
   refine .mk [(1,3010),(21,3008),(22,3009)] (k + 1) (by omega) (by omega) (go ?_)
   refine cb (show lateB (P k) = lateB (P (k + 1)) by unfold lateB;rw [hl,hl1]) (go ?_)
   iterate 3 (refine boBat (o:=P (k + 1)) (st:=384) (ν:=fun x=>20 + x) (fun x=>match x with | 0=>20 | x=>3007 + x) ?_ (by rfl) (by rfl) (by decide) (by decide) (by decide);(refine go ?_; try exact True.intro))
theorem doM_isB {M : Mod} {c : Cal} (h : c.kind = 3) (z : Int) : (doM M c z).1.iss = M.iss:=by
 unfold doM batchM
 rw [if_neg (by omega),if_neg (by omega),if_pos h]
 repeat' split
 all_goals rfl
theorem modS_eq {n : Nat} {s : Sto} {S : List Item} {M : Mod} (h : RdM n s S M) (hi : M.iss = []) : M = modS n s S:=by
 obtain ⟨a,b,c,d⟩:=M
 obtain ⟨h1,h2,h3,_⟩:=h
 dsimp only at h1 h2 h3 hi
 rw [h1,h2,h3,hi];rfl
structure BAlone (n K0 : Nat) (t : Nat) (s : Sto) (S : List Item) (c : Cl) (m : Nat) (S1 : List Item) : Prop where
 m1 : 1 ≤ m ∧ m ≤ 3 * S.length + 9
 st : ∀ k,k < m → BStepL (runB (.new t c) s k).1 (runB (.new t c) s k).2 (decide (k + 1 = m)) (runB (.new t c) s (k + 1)).1 (runB (.new t c) s (k + 1)).2
 bl : ∀ k,k < m → (runB (.new t c) s (k + 1)).1.blk = false
 ef : ∀ k,k < m → (runB (.new t c) s (k + 1)).1.eff = (!(Kop.bat (runB (.new t c) s k).1).late && (Kop.bat (runB (.new t c) s (k + 1)).1).late)
 lt : ∀ k,k < m → (Kop.bat (runB (.new t c) s k).1).late = true → (Kop.bat (runB (.new t c) s (k + 1)).1).late = true
 lm : (Kop.bat (runB (.new t c) s m).1).late = true
 dn : (runB (.new t c) s m).1.done = true
 y : Rdy n (K0 + m) (runB (.new t c) s m).2 S1
 d : doM (modS n s S) c.cal 0 = (modS n (runB (.new t c) s m).2 S1,(Kop.bat (runB (.new t c) s m).1).res)
theorem bat_alone {n K0 : Nat} {s : Sto} {S : List Item} (hr : Rdy n K0 s S) (t : Nat) (c : Cl) (hc : c.k = 3) (hK : K0 + 50 ≤ 20000) : ∃ m S1,BAlone n K0 t s S c m S1:=by
 obtain ⟨m,h⟩:=alone_run hr (modS_rd n s S) t c hK
 have hS : S.length ≤ 12:=by have:=hr.ok.toSOk.len;have:=hr.ok.n12;omega
 have hm:=h.e2
 have e0 : Kop.new (t : Int) c = .bat (.new t c):=by unfold Kop.new;rw [if_neg (by rw [hc];decide),if_neg (by rw [hc];decide),if_pos hc]
 obtain ⟨S1,M1,f1,f2,f3⟩:=h.fin
 have hlt:=h.lt
 have hdn:=h.dn
 rw [e0,runK_bat] at f1 f2 f3 hlt hdn
 have f3 : doM (modS n s S) c.cal 0 = (M1,(Kop.bat (runB (.new t c) s m).1).res):=f3
 have hi:=doM_isB (M:=modS n s S) (c:=c.cal) hc 0
 rw [f3] at hi
 rw [modS_eq f2 hi] at f3
 have hl : ∀ k,k < m → LateK (.bat (runB (.new t c) s k).1) (.bat (runB (.new t c) s (k + 1)).1):=fun k hk=>by
  have h1:=(h.run k hk).2.late
  rw [e0,runK_bat,runK_bat] at h1
  exact h1
 refine ⟨m,S1,⟨h.e1,hm⟩,(bat_steps hc h hK (by omega)).1,fun k hk=>?_,fun k hk=>(hl k hk).eff,fun k hk y=>((hl k hk).keep y).1,hlt,hdn,f1,f3⟩
 have h1:=(h.run k hk).2.blk
 rw [e0,runK_bat] at h1
 exact h1
theorem ev_len {o : BOp} {s : Sto} : ∀ k,(runB o s k).1.ev.length ≤ o.ev.length + k
 | 0=>Nat.le_refl _
 | k + 1=>by
  have ih:=ev_len (o:=o) (s:=s) k
  have h1 : ∀ (p : BOp) (t : Sto),(p.step t).1.ev.length ≤ p.ev.length + 1:=fun p t=>by
   unfold BOp.step BOp.lock BOp.take BOp.scan BOp.free BOp.unlock
   repeat' split
   all_goals (first | (dsimp only;omega) | (dsimp only;rw [List.length_append];exact Nat.le_refl _))
  have h2:=h1 (runB o s k).1 (runB o s k).2
  show ((runB o s k).1.step (runB o s k).2).1.ev.length ≤ _
  omega
theorem batchopAlone (c : Int) (hc : 0 ≤ c ∧ c ≤ 255) (l : List OpS) (hl : ∀ o ∈ l,o.Ok) (most : Int) (hmb : 0 ≤ most ∧ most ≤ 255) (bound : Int) : PSpec Tryz.prog 6 [.c (.int .u8 c),opsSV l,.c (.int .u8 most),V.int bound] (V.bool true):=by
 obtain ⟨_,hn⟩:=capN_ok hc.1
 have hr:=prep_ready hn hl
 have hsz:=sizeC c hc
 have hp:=preparedC hn l hl
 generalize prepS (capN c) l = s at *
 generalize (runF (capN c) l (min l.length 60)).2 = S at *
 generalize capN c = n at *
 have hr:=Rdy.of hr
 obtain ⟨m,S1,h⟩:=bat_alone hr 2 ⟨3,0,0,mostB most,bound⟩ rfl (by decide)
 have hev : (runB (.new ((2 : Nat) : Int) ⟨3,0,0,mostB most,bound⟩) s m).1.ev.length < 1000:=by
  have h1:=ev_len (o:=.new ((2 : Nat) : Int) ⟨3,0,0,mostB most,bound⟩) (s:=s) m
  have h2:=h.m1.2
  have h3 : S.length ≤ 12:=by have:=hr.ok.toSOk.len;omega
  have h4 : (BOp.new ((2 : Nat) : Int) ⟨3,0,0,mostB most,bound⟩).ev.length = 0:=rfl
  omega
 exact bAloneG c l most bound hmb hn s S S1 hsz head14C hp hr (fun k=>(runB (.new 2 ⟨3,0,0,mostB most,bound⟩) s k).1) (fun k=>(runB (.new 2 ⟨3,0,0,mostB most,bound⟩) s k).2) m h.m1 rfl rfl h.st h.bl h.ef h.lt rfl h.lm h.y h.d hev
theorem specBatchopAlone (rows : List (List D)) (h : AllR (ShapeD tab 5) [5,22,5,3] rows) : PSpec Tryz.prog 6 (List.zipWith (argV tab) [5,22,5,3] rows) (V.bool true):=by
 obtain ⟨_,_,rfl,h1,h⟩:=h.cons
 obtain ⟨_,_,rfl,h2,h⟩:=h.cons
 obtain ⟨_,_,rfl,h3,h⟩:=h.cons
 obtain ⟨_,_,rfl,h4,h⟩:=h.cons
 cases h.nil
 obtain ⟨c,rfl,hc⟩:=u8OfG h1
 obtain ⟨l,hl,rfl⟩:=opsSOf h2
 obtain ⟨mo,rfl,hmo⟩:=u8OfG h3
 obtain ⟨b,rfl,_⟩:=intOfG h4
 exact batchopAlone c hc l hl mo hmo b
end Go.Proofs.YtdjnjchpgccbiaaGreat.Abs
