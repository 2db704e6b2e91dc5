/- Insertions of many threads beside the reference: the walk. -/
import Derived.Test.YtcffiehcdadimaaGreatM18
import Derived.Test.YtcffiehcdadimaaGreatJB
import Derived.Test.YtcffiehcdadimaaGreatHB
namespace Go.Proofs.YtcffiehcdadimaaGreat.Abs
open Go.Proofs
set_option maxRecDepth 10000
set_option linter.unusedSimpArgs false
set_option linter.unusedVariables false
def timeI (raw : Int) : Int:=if raw.tmod 7 = 0 then raw else (raw.tmod 100 + 100).tmod 100
theorem timeIC (raw : Int) : PSpec Tryz.prog 45 [V.int raw] (V.int (timeI raw)):=by
 have hb:=tmod_bounds raw 100 (by omega)
 unfold timeI
 by_cases h : raw.tmod 7 = 0
 · rw [if_pos h]
   refine pspec tab_ok mix Tryz.func45 (by kernel_rfl) rfl rfl ?_
   (refine go ?_; try exact True.intro)
   rw [decide_eq_true h]
   (refine go ?_; try exact True.intro)
   exact .same rfl
 · rw [if_neg h]
   refine pspec tab_ok mix Tryz.func45 (by kernel_rfl) rfl rfl ?_
   (refine go ?_; try exact True.intro)
   rw [decide_eq_false h]
   (refine go ?_; try exact True.intro)
   exact .same rfl
structure MI where
 i : Nat
 nx : Nat
 s : Sto
 cs : Nat → Option IOp
 cur : Nat
theorem left_done {o : IOp} (h : o.done = true) : o.left = none:=by
 unfold IOp.done at h
 unfold IOp.left
 split at h
 · next e=>rw [e]
 · cases h
theorem left_run {o : IOp} (h : o.done = false) : o.left = some o:=by
 unfold IOp.done at h
 unfold IOp.left
 split
 · next e=>rw [e] at h;cases h
 · rfl
set_option maxHeartbeats 8000000 in
theorem iRunC (P : Nat → IOp) (Q : Nat → Sto) (m : Nat) (hm : 1 ≤ m ∧ m ≤ 20) (hst : ∀ k,k < m → IStep (P k) (Q k) (decide (k + 1 = m)) (P (k + 1)) (Q (k + 1))) :
 LSpec Tryz.prog 85 [.p 0 16 0 0,V.int 20] (iB0 (P 0) (Q 0)) 17 (V.int m) (iB1 (P m) (Q m)) 29:=by
 refine lspecO [0,18,19,20,21,22,23,24,25,26,27,28] tab_ok mix Tryz.func85 (by kernel_rfl) (by rfl) (iB0_below _ _) (by rfl) (by rfl) (go ?_)
 refine loopO tab_ok mix [0,21,22,23,24,25,26,27,28,29,30,31] [0,1] [] (fun k : Nat=>[(5,V.int ((k : Int) + 1))]) (fun k=>bl12 (P k) 12 (fun x=>match x with | 0=>0 | x=>20 + x) ++ sto5 (Q k) 12 13 17 15 16) (fun k=>k < m) (fun k=>m - k) [(17,14),(21,1),(22,2),(23,3),(24,4),(25,5),(26,6),(27,7),(28,8),(29,9),(30,10),(31,11)] 0 rfl (by omega) ?_ ?_
 · (refine go ?_; try exact True.intro)
   iterate 12 (refine boBlk (o:=P 0) (st:=12) (ν:=fun x=>match x with | 0=>0 | x=>20 + x) (fun x=>x) ?_ (by rfl) (by rfl) (by decide) (by decide) (by decide);(refine go ?_; try exact True.intro))
 intro k hk
 have h1:=hst k hk
 (refine go ?_; try exact True.intro)
 rw [decide_eq_true (show (k : Int) + 1 ≤ 20 by omega)]
 (refine go ?_; try exact True.intro)
 refine callO h1 [some 0,some 21,some 22,some 23,some 24,some 25,some 26,some 27,some 28,some 29,some 30,some 31,some 12,some 13,some 17,some 15,some 16] [] _ _ _ (iB0_at (ν:=fun x=>match x with | 0=>0 | x=>20 + x) (P k) (Q k) (by decide) rfl rfl rfl rfl rfl) (iB1_at (ν:=fun x=>match x with | 0=>0 | x=>448 + x) (P (k + 1)) (Q (k + 1)) rfl (by decide) rfl rfl rfl rfl rfl) rfl rfl (go ?_)
 by_cases hz : k + 1 = m
 · rw [decide_eq_true hz]
   (refine go ?_; try exact True.intro)
   subst hz
   refine .mk [(17,448),(18,449),(19,450),(20,451),(21,452),(22,453),(23,454),(24,455),(25,456),(26,457),(27,458),(28,459)] (go ?_)
   iterate 12 (refine boBlk (o:=P (k + 1)) (st:=12) (ν:=nu1) (fun x=>match x with | 0=>0 | x=>448 + x) ?_ (by rfl) (by rfl) (by decide) (by decide) (by decide);(refine go ?_; try exact True.intro))
 · rw [decide_eq_false hz]
   (refine go ?_; try exact True.intro)
   refine .mk [(17,448),(21,449),(22,450),(23,451),(24,452),(25,453),(26,454),(27,455),(28,456),(29,457),(30,458),(31,459)] (k + 1) (by omega) (by omega) (go ?_)
   iterate 12 (refine boBlk (o:=P (k + 1)) (st:=12) (ν:=fun x=>match x with | 0=>0 | x=>20 + x) (fun x=>match x with | 0=>0 | x=>448 + x) ?_ (by rfl) (by rfl) (by decide) (by decide) (by decide);(refine go ?_; try exact True.intro))
def hN : Nat → Int
 | 7=>7
 | _=>0
def hA : Nat → Int
 | 5=>5
 | 6=>5
 | 7=>5
 | _=>0
set_option maxHeartbeats 16000000 in
theorem head12_aux (s0 : Sto) (hs0 : LSpec Tryz.prog 84 [V.int 1] [] 0 (.p 0 10 0 0) (stoB s0 2) 5) (O : Nat → IOp) (S : Nat → Sto) (hO : O 0 = IOp.new 1 5) (hS : S 0 = s0) (hst : ∀ k,k < 7 → IStep (O k) (S k) (Nat.beq k 6) (O (k + 1)) (S (k + 1))) (hef : ∀ k,k ≤ 7 → (O k).eff = Nat.beq k 5) (hre : (O 7).re = 0 ∧ (O 7).rh = 0)
 (P : Nat → IOp) (Q : Nat → Sto) (hP : P 0 = IOp.new 2 3) (hQ : Q 0 = S 7) (hrn : ∀ k,k < 7 → IStep (P k) (Q k) (decide (k + 1 = 7)) (P (k + 1)) (Q (k + 1))) (hrp : (P 7).re = 10)
 (b1 : IOp) (hb : IStep (.new 1 (-1)) (Q 7) true b1 (Q 7)) (hbe : b1.eff = true) (hbr : b1.re = 1) (T : List Item) (hit : LSpec Tryz.prog 22 [.p 0 10 0 0] (stoB (Q 7) 2) 5 (itemsV T) (stoB (Q 7) 2) 5) (hT : T.length = 1) (hv : (Q 7).m.viol = 0) :
 PSpec Tryz.prog 42 [] (V.bool true):=by
 have hml : (T.map Item.row).length = 1:=by rw [List.length_map,hT]
 refine pspec tab_ok mix Tryz.func42 (by kernel_rfl) rfl rfl ?_
 (refine go ?_; try exact True.intro)
 refine callL hs0 [] [] rfl (go ?_)
 refine callL (iNewC s0 1 ⟨1,5,0,0,0⟩) [some 64,some 65,some 66,some 67,some 68] [] rfl (go ?_)
 refine callL (iNewC s0 1 ⟨0,-1,0,0,0⟩) [some 64,some 65,some 66,some 67,some 68] [] rfl (go ?_)
 refine loopO tab_ok mix [20,21,22,23,24,25,26,27,28,29,30,31] [1,3] [704] (fun k : Nat=>[(2,.p 20 16 0 0),(4,V.int (hN k)),(5,V.int (hA k)),(6,V.int ((k : Int) + 1))]) (fun k=>bl12 (O k) 64 (fun x=>20 + x) ++ sto5 (S k) 64 65 1 67 68) (fun k=>k ≤ 7) (fun k=>8 - k) [(1,66),(20,448)] 0 rfl (by omega) ?_ ?_
 · rw [hO,hS]
   (refine go ?_; try exact True.intro)
   refine boBlk (o:=IOp.new 1 5) (st:=64) (ν:=fun x=>20 + x) (i:=0) (fun x=>match x with | 0=>448 | x=>20 + x) ?_ (by rfl) (by rfl) (by decide) (by decide) (by decide)
   (refine go ?_; try exact True.intro)
   iterate 11 (refine BO.no rfl trivial ?_;(refine go ?_; try exact True.intro))
 intro k hk
 by_cases h7 : k = 7
 case neg=>
  have h1:=hst k (by omega)
  have h2:=hef (k + 1) (by omega)
  have h3:=iEffectC (O (k + 1)) (S (k + 1))
  rw [h2] at h3
  rcases (show k = 0 ∨ k = 1 ∨ k = 2 ∨ k = 3 ∨ k = 4 ∨ k = 5 ∨ k = 6 by omega) with rfl | rfl | rfl | rfl | rfl | rfl | rfl
  all_goals
   (refine go ?_; try exact True.intro)
   refine callO h1 [some 20,some 21,some 22,some 23,some 24,some 25,some 26,some 27,some 28,some 29,some 30,some 31,some 64,some 65,some 1,some 67,some 68] [] _ _ _ (iB0_at (ν:=fun x=>20 + x) _ _ (by decide) rfl rfl rfl rfl rfl) (iB1_at (ν:=fun x=>match x with | 0=>20 | x=>1856 + x) _ _ rfl (by decide) rfl rfl rfl rfl rfl) rfl rfl (go ?_)
   refine callO h3 [some 20,some 1857,some 1858,some 1859,some 1860,some 1861,some 1862,some 1863,some 1864,some 1865,some 1866,some 1867,some 64,some 65,some 1856,some 67,some 68] [] _ _ _ (iB0_at (ν:=fun x=>match x with | 0=>20 | x=>1856 + x) _ _ (by decide) rfl rfl rfl rfl rfl) (iB0_at (ν:=fun x=>match x with | 0=>20 | x=>1856 + x) _ _ (by decide) rfl rfl rfl rfl rfl) rfl rfl (go ?_);try exact True.intro
  refine .mk [(1,1856),(21,1857),(22,1858),(23,1859),(24,1860),(25,1861),(26,1862),(27,1863),(28,1864),(29,1865),(30,1866),(31,1867)] 1 (by omega) (by decide) ?_;rotate_left
  refine .mk [(1,1856),(21,1857),(22,1858),(23,1859),(24,1860),(25,1861),(26,1862),(27,1863),(28,1864),(29,1865),(30,1866),(31,1867)] 2 (by omega) (by decide) ?_;rotate_left
  refine .mk [(1,1856),(21,1857),(22,1858),(23,1859),(24,1860),(25,1861),(26,1862),(27,1863),(28,1864),(29,1865),(30,1866),(31,1867)] 3 (by omega) (by decide) ?_;rotate_left
  refine .mk [(1,1856),(21,1857),(22,1858),(23,1859),(24,1860),(25,1861),(26,1862),(27,1863),(28,1864),(29,1865),(30,1866),(31,1867)] 4 (by omega) (by decide) ?_;rotate_left
  refine .mk [(1,1856),(21,1857),(22,1858),(23,1859),(24,1860),(25,1861),(26,1862),(27,1863),(28,1864),(29,1865),(30,1866),(31,1867)] 5 (by omega) (by decide) ?_;rotate_left
  refine .mk [(1,1856),(21,1857),(22,1858),(23,1859),(24,1860),(25,1861),(26,1862),(27,1863),(28,1864),(29,1865),(30,1866),(31,1867)] 6 (by omega) (by decide) ?_;rotate_left
  refine .mk [(1,1856),(21,1857),(22,1858),(23,1859),(24,1860),(25,1861),(26,1862),(27,1863),(28,1864),(29,1865),(30,1866),(31,1867)] 7 (by omega) (by decide) ?_;rotate_left
  all_goals
   (refine go ?_; try exact True.intro)
   iterate 12 (refine boBlk (o:=O _) (ν:=fun x=>20 + x) (st:=64) (fun x=>match x with | 0=>20 | x=>1856 + x) ?_ (by rfl) (by rfl) (by decide) (by decide) (by decide);(refine go ?_; try exact True.intro))
 · subst h7
   (refine go ?_; try exact True.intro)
   refine callL (iNewC (S 7) 2 ⟨0,3,0,0,0⟩) [some 64,some 65,some 1,some 67,some 68] [] rfl (go ?_)
   have h1:=iRunC P Q 7 (by decide) hrn
   rw [hP,hQ] at h1
   refine callO h1 [some 1920,none,none,none,none,none,none,none,none,none,none,none,some 64,some 65,some 1,some 67,some 68] [] _ _ _ (iB0_at (ν:=fun x=>match x with | 0=>1920 | x=>2272 + x) (IOp.new 2 3) (S 7) (by decide) rfl rfl rfl rfl rfl) (iB1_at (ν:=fun x=>match x with | 0=>1920 | x=>2240 + x) (P 7) (Q 7) rfl (by decide) rfl rfl rfl rfl rfl) rfl rfl (go ?_)
   have r1:=iResultC (O 7) (Q 7)
   rw [hre.1,hre.2] at r1
   refine callO r1 [some 20,some 21,some 22,some 23,some 24,some 25,some 26,some 27,some 28,some 29,some 30,some 31,some 64,some 65,some 2240,some 67,some 68] [] _ _ _ (iB0_at (ν:=fun x=>20 + x) (O 7) (Q 7) (by decide) rfl rfl rfl rfl rfl) (iB0_at (ν:=fun x=>20 + x) (O 7) (Q 7) (by decide) rfl rfl rfl rfl rfl) rfl rfl (go ?_)
   refine callO r1 [some 20,some 21,some 22,some 23,some 24,some 25,some 26,some 27,some 28,some 29,some 30,some 31,some 64,some 65,some 2240,some 67,some 68] [] _ _ _ (iB0_at (ν:=fun x=>20 + x) (O 7) (Q 7) (by decide) rfl rfl rfl rfl rfl) (iB0_at (ν:=fun x=>20 + x) (O 7) (Q 7) (by decide) rfl rfl rfl rfl rfl) rfl rfl (go ?_)
   have r2:=iResultC (P 7) (Q 7)
   rw [hrp] at r2
   refine callO r2 [some 1920,some 2241,some 2242,some 2243,some 2244,some 2245,some 2246,some 2247,some 2248,some 2249,some 2250,some 2251,some 64,some 65,some 2240,some 67,some 68] [] _ _ _ (iB0_at (ν:=fun x=>match x with | 0=>1920 | x=>2240 + x) (P 7) (Q 7) (by decide) rfl rfl rfl rfl rfl) (iB0_at (ν:=fun x=>match x with | 0=>1920 | x=>2240 + x) (P 7) (Q 7) (by decide) rfl rfl rfl rfl rfl) rfl rfl (go ?_)
   refine callO hb [some 704,none,none,none,none,none,none,none,none,none,none,none,some 64,some 65,some 2240,some 67,some 68] [] _ _ _ (iB0_at (ν:=fun x=>match x with | 0=>704 | x=>4320 + x) (IOp.new 1 (-1)) (Q 7) (by decide) rfl rfl rfl rfl rfl) (iB1_at (ν:=fun x=>match x with | 0=>704 | x=>4288 + x) b1 (Q 7) rfl (by decide) rfl rfl rfl rfl rfl) rfl rfl (go ?_)
   have r3:=iEffectC b1 (Q 7)
   rw [hbe] at r3
   refine callO r3 [some 704,some 4289,some 4290,some 4291,some 4292,some 4293,some 4294,some 4295,some 4296,some 4297,some 4298,some 4299,some 64,some 65,some 4288,some 67,some 68] [] _ _ _ (iB0_at (ν:=fun x=>match x with | 0=>704 | x=>4288 + x) b1 (Q 7) (by decide) rfl rfl rfl rfl rfl) (iB0_at (ν:=fun x=>match x with | 0=>704 | x=>4288 + x) b1 (Q 7) (by decide) rfl rfl rfl rfl rfl) rfl rfl (go ?_)
   have r4:=iResultC b1 (Q 7)
   rw [hbr] at r4
   refine callO r4 [some 704,some 4289,some 4290,some 4291,some 4292,some 4293,some 4294,some 4295,some 4296,some 4297,some 4298,some 4299,some 64,some 65,some 4288,some 67,some 68] [] _ _ _ (iB0_at (ν:=fun x=>match x with | 0=>704 | x=>4288 + x) b1 (Q 7) (by decide) rfl rfl rfl rfl rfl) (iB0_at (ν:=fun x=>match x with | 0=>704 | x=>4288 + x) b1 (Q 7) (by decide) rfl rfl rfl rfl rfl) rfl rfl (go ?_)
   refine callL hit [some 64,some 65,some 4288,some 67,some 68] [] rfl (go ?_)
   rw [hml]
   (refine go ?_; try exact True.intro)
   refine callL (memoryC (Q 7)) [some 64,some 65,some 4288,some 67,some 68] [] rfl (go ?_)
   have r5:=violC (Q 7).m
   rw [hv] at r5
   refine callL r5 [some 65,some 4288,some 67,some 68] [] rfl (go ?_)
   exact .same rfl
def runI (o : IOp) (s : Sto) : Nat → IOp × Sto
 | 0=>(o,s)
 | k + 1=>(runI o s k).1.step (runI o s k).2
theorem runI_ok {n : Nat} {s : Sto} {S : List Item} {K : Nat} (h : SB n s S (fun _=>False) K) (ht : s.m.Thr) {o : IOp} (ho : IOk n (fun _=>False) o) (hs : o.pc = .start) : ∀ k,K + k ≤ 20000 → (∀ j,j < k → (runI o s j).1.pc ≠ .ret) →
 ∃ S A,SB n (runI o s k).2 S A (K + k) ∧ (runI o s k).2.m.Thr ∧ ((runI o s k).1.pc ≠ .ret → IOk n A (runI o s k).1) ∧ ∀ i,A i ↔ (runI o s k).1.hnd i
 | 0,_,_=>⟨S,_,h,ht,fun _=>ho,fun i=>⟨fun x=>x.elim,fun x=>by
  have h1 : o.pc = .leave ∨ o.pc = .put:=x.2.1
  rw [hs] at h1
  rcases h1 with h1 | h1 <;> cases h1⟩⟩
 | k + 1,hk,hj=>by
  obtain ⟨S1,A1,a1,a2,a3,a4⟩:=runI_ok h ht ho hs k (by omega) fun j hjk=>hj j (by omega)
  obtain ⟨S2,A2,b1,b2,b3,b4,_⟩:=IOp.step_ok a1 (by omega) a2 (a3 (hj k (by omega)))
  refine ⟨S2,A2,b1,b2,b3,fun i=>?_⟩
  rw [b4 i,a4 i]
  exact ⟨fun x=>x.elim (fun y=>absurd y.1 y.2) id,.inr⟩
theorem runI_steps {n : Nat} {s : Sto} {S : List Item} {K : Nat} (h : SB n s S (fun _=>False) K) (ht : s.m.Thr) {o : IOp} (ho : IOk n (fun _=>False) o) (hs : o.pc = .start) {k : Nat} (hk : K + k + 1 ≤ 20000) (hj : ∀ j,j ≤ k → (runI o s j).1.pc ≠ .ret) :
 IStep (runI o s k).1 (runI o s k).2 (runI o s (k + 1)).1.done (runI o s (k + 1)).1 (runI o s (k + 1)).2:=by
 obtain ⟨S1,A1,a1,a2,a3,a4⟩:=runI_ok h ht ho hs k (by omega) fun j hjk=>hj j (by omega)
 exact iStepC a1 (by omega) a2 (a3 (hj k (by omega)))
theorem bad_step (s : Sto) : (IOp.new 1 (-1)).step s = (⟨1,-1,.ret,none,0,1,false,true,false⟩,s):=by
 unfold IOp.step IOp.new
 dsimp only
 rw [if_pos (.inl (by decide))]
theorem head12C : PSpec Tryz.prog 42 [] (V.bool true):=by
 have hb:=sto0_ok (n:=1) ⟨by omega,by omega⟩
 have ht : (sto0 1).m.Thr:=fun i hi=>by
  by_cases c : i < 4
  · rw [sto0_free 1 i c] at hi;cases hi
  · unfold Mem.held at hi
    rw [List.getElem?_eq_none (by show (List.replicate 4 (false,(0 : Int))).length ≤ i;simp;omega)] at hi
    cases hi
 have ho : IOk 1 (fun _=>False) (IOp.new 1 5):=IOk.new (by omega) 5
 have p7 : ∀ j,j < 7 → (runI (IOp.new 1 5) (sto0 1) j).1.pc ≠ .ret:=by decide
 have d7 : ∀ k,k < 7 → (runI (IOp.new 1 5) (sto0 1) (k + 1)).1.done = Nat.beq k 6:=by decide
 have e7 : ∀ k,k ≤ 7 → (runI (IOp.new 1 5) (sto0 1) k).1.eff = Nat.beq k 5:=by decide
 have r7 : (runI (IOp.new 1 5) (sto0 1) 7).1.re = 0 ∧ (runI (IOp.new 1 5) (sto0 1) 7).1.rh = 0:=by decide
 obtain ⟨S1,A1,a1,a2,a3,a4⟩:=runI_ok hb ht ho rfl 7 (by omega) p7
 have hA1 : A1 = fun _=>False:=by
  funext i
  refine propext ⟨fun x=>?_,fun x=>x.elim⟩
  have h1:=((a4 i).1 x).2.1
  rcases h1 with h1 | h1 <;> exact absurd h1 (by decide)
 subst hA1
 have ho2 : IOk 1 (fun _=>False) (IOp.new 2 3):=IOk.new (by omega) 3
 have q7 : ∀ j,j < 7 → (runI (IOp.new 2 3) (runI (IOp.new 1 5) (sto0 1) 7).2 j).1.pc ≠ .ret:=by decide
 have dq : ∀ k,k < 7 → (runI (IOp.new 2 3) (runI (IOp.new 1 5) (sto0 1) 7).2 (k + 1)).1.done = decide (k + 1 = 7):=by decide
 have rq : (runI (IOp.new 2 3) (runI (IOp.new 1 5) (sto0 1) 7).2 7).1.re = 10:=by decide
 have vq : (runI (IOp.new 2 3) (runI (IOp.new 1 5) (sto0 1) 7).2 7).2.m.viol = 0:=by decide
 have lq : liveN (runI (IOp.new 2 3) (runI (IOp.new 1 5) (sto0 1) 7).2 7).2.pics = 1:=by decide
 have xq : (runI (IOp.new 2 3) (runI (IOp.new 1 5) (sto0 1) 7).2 7).1.pc = .ret:=by decide
 obtain ⟨S2,A2,b1,b2,b3,b4⟩:=runI_ok a1 a2 ho2 rfl 7 (by omega) q7
 have hA2 : A2 = fun _=>False:=by
  funext i
  refine propext ⟨fun x=>?_,fun x=>x.elim⟩
  have h1:=((b4 i).1 x).2.1
  rw [xq] at h1
  rcases h1 with h1 | h1 <;> cases h1
 subst hA2
 have hlen : S2.length = 1:=by rw [b1.toSOk.items_len,lq]
 have hbad:=iStepC b1 (by omega) b2 (IOk.new (n:=1) (A:=fun _=>False) (th:=1) (by omega) (-1))
 have hbd:=bad_step (runI (IOp.new 2 3) (runI (IOp.new 1 5) (sto0 1) 7).2 7).2
 rw [hbd] at hbad
 exact head12_aux (sto0 1) (newStoC 1 (by omega)) (fun k=>(runI (IOp.new 1 5) (sto0 1) k).1) (fun k=>(runI (IOp.new 1 5) (sto0 1) k).2) rfl rfl
  (fun k hk=>by rw [← d7 k hk];exact runI_steps hb ht ho rfl (by omega) fun j hj=>p7 j (by omega)) e7 r7
  (fun k=>(runI (IOp.new 2 3) (runI (IOp.new 1 5) (sto0 1) 7).2 k).1) (fun k=>(runI (IOp.new 2 3) (runI (IOp.new 1 5) (sto0 1) 7).2 k).2) rfl rfl
  (fun k hk=>by rw [← dq k hk];exact runI_steps a1 a2 ho2 rfl (by omega) fun j hj=>q7 j (by omega)) rq
  _ hbad rfl rfl S2 b1.shown.items hlen vq
theorem u8sOfG {m : Nat} {row : List D} (h : ShapeD tab (m + 2) 23 row) : ∃ l : List Int,(∀ y ∈ l,0 ≤ y ∧ y ≤ 255) ∧ row = [.lst 1 (l.map u8D)]:=by
 obtain ⟨l,rfl⟩:=lstOfG (f:=fun x : { y : Int // 0 ≤ y ∧ y ≤ 255 }=>u8D x.1) (sz:=1) rfl rfl (fun r hr=>by obtain ⟨x,rfl,hx⟩:=u8OfG hr;exact ⟨⟨x,hx⟩,rfl⟩) h
 refine ⟨l.map Subtype.val,fun y hy=>?_,by rw [List.map_map];rfl⟩
 obtain ⟨x,_,rfl⟩:=List.mem_map.1 hy
 exact x.2
theorem intsOfG {m : Nat} {row : List D} (h : ShapeD tab (m + 2) 36 row) : ∃ l : List Int,row = [.lst 1 (l.map intD)]:=by
 obtain ⟨l,rfl⟩:=lstOfG (f:=intD) (sz:=1) rfl rfl (fun r hr=>by obtain ⟨x,rfl,hx⟩:=intOfG hr;exact ⟨x,rfl⟩) h
 exact ⟨l,rfl⟩
theorem args12 {f : FuncId} (hf : ∀ c : Int,0 ≤ c ∧ c ≤ 255 → ∀ l : List OpS,(∀ o ∈ l,o.Ok) → ∀ times picks : List Int,(∀ y ∈ picks,0 ≤ y ∧ y ≤ 255) → PSpec Tryz.prog f [.c (.int .u8 c),opsSV l,intsV times,u8sV picks] (V.bool true))
 (rows : List (List D)) (h : AllR (ShapeD tab 5) [5,22,36,23] rows) : PSpec Tryz.prog f (List.zipWith (argV tab) [5,22,36,23] rows) (V.bool true):=by
 obtain ⟨_,_,rfl,h1,h⟩:=h.cons
 obtain ⟨_,_,rfl,h2,h⟩:=h.cons
 obtain ⟨_,_,rfl,h3,h⟩:=h.cons
 obtain ⟨_,_,rfl,h4,h⟩:=h.cons
 cases h.nil
 obtain ⟨c,rfl,hc⟩:=u8OfG h1
 obtain ⟨l,hl,rfl⟩:=opsSOf h2
 obtain ⟨hs,rfl⟩:=intsOfG h3
 obtain ⟨p,hp,rfl⟩:=u8sOfG h4
 exact hf c hc l hl hs p hp
end Go.Proofs.YtcffiehcdadimaaGreat.Abs
