/- Insertions of many threads that are played to their end: the contract. -/
import Derived.Test.YtcffiehcdadimaaGreatM35
import Derived.Test.YtcffiehcdadimaaGreatMF
namespace Go.Proofs.YtcffiehcdadimaaGreat.Abs
open Go.Proofs
set_option linter.unusedSimpArgs false
set_option linter.unusedVariables false
theorem PI.zero {n : Nat} {s0 : Sto} {S : List Item} (hr : Ready n s0 S) (times : List Int) : PI n times.length s0.q.topStart 0 s0.next s0.idle.length (ps0 times s0):=by
 have hthr : s0.m.Thr:=thr_of hr.ok.nm fun i hi h=>by rw [hr.free i hi] at h;cases h
 have c0 : cnt4 (fun j=>oneO ((ps0 times s0).cs j)) = 0:=rfl
 refine ⟨⟨S,fun _=>False,hr.ok,hthr,fun j o _ h=>(by cases h),fun i h=>h.elim,fun j j' o o' i _ _ h=>(by cases h)⟩,
  ⟨rfl,fun i j _ _ h=>?_,fun i hi h=>?_,fun j o _ h=>(by cases h),fun j o i _ h=>(by cases h),hr.viol⟩,
  ⟨?_,?_,fun p e h hp=>?_⟩,Nat.zero_le _,rfl,?_,fun j _ h=>absurd rfl h,fun j k _ _ h=>absurd rfl h,rfl,fun p k h=>?_,rfl⟩
 · obtain ⟨o,ho,_⟩:=h;cases ho
 · rw [show (ps0 times s0).s = s0 from rfl,hr.free i hi] at h;cases h
 · show s0.next = s0.next + (0 : Nat);simp
 · show s0.idle.length + 0 = _;simp
 · cases hp
 · show (List.replicate times.length ((0 : Int),(0 : Int))).length = _;simp
 · cases h
structure Played (n : Nat) (s0 : Sto) (S : List Item) (times : List Int) (s1 : Sto) (S1 : List Item) (el : List (Int × Int)) : Prop where
 sb : SB n s1 S1 (fun _=>False) 20000
 thr : s1.m.Thr
 free : ∀ i,i < 4 → ¬ (s1.m.held i).1 = true
 viol : s1.m.viol = 0
 ef : EF n s0.next s0.idle.length s1 el
 len : el.length = times.length
theorem playG {n : Nat} {s0 : Sto} {S : List Item} (hr : Ready n s0 S) (times picks : List Int) (hpk : ∀ y ∈ picks,0 ≤ y ∧ y ≤ 255) (hL : picks.length ≤ 200) (hH : times.length ≤ 20) :
 ∃ s1 S1 el,s1 = (PS.run times (tpI picks) (ps0 times s0) (rndsN times picks)).s ∧ el = (PS.run times (tpI picks) (ps0 times s0) (rndsN times picks)).el ∧ Played n s0 S times s1 S1 el ∧ LSpec Tryz.prog 43 [.p 0 10 0 0,intsV times,u8sV picks] (stoB s0 2) 5 (.tup [.lst 4 (el.map resR) false,V.bool true]) (stoB s1 5) 6:=by
 have h0:=PI.zero hr times
 have htp : ∀ i,tpI picks i < 4:=tpI_lt picks hpk
 have hrn : rndsN times picks ≤ 10000:=by unfold rndsN;omega
 have hz:=h0.end htp rfl (lp:=picks.length) (fun i hi=>by unfold tpI;rw [if_neg (by omega)]) (by omega) (by unfold PS.phi;show 0 + 9 * (times.length - 0) ≤ _;omega)
 have hrun : ∀ i,i ≤ 10000 → PI n times.length s0.q.topStart 0 s0.next s0.idle.length (PS.run times (tpI picks) (ps0 times s0) i):=h0.run htp rfl
 have hi : ∀ i,(PS.run times (tpI picks) (ps0 times s0) i).i = i:=fun i=>by rw [run_i];show 0 + i = i;omega
 have hE:=hrun (rndsN times picks) hrn
 obtain ⟨f1,f2,f3,f4,f5,f6⟩:=hE.fin hz
 have hieq:=hi (rndsN times picks)
 have hok : PWOk n s0.q.topStart 0 s0.next s0.idle.length times picks s0 (ps0 times s0,0):=⟨by show 0 < 4;omega,Nat.zero_le _,rfl,h0⟩
 obtain ⟨S1,A1,c1⟩:=hE.ci
 have hA : A1 = fun _=>False:=by
  funext i
  refine propext ⟨fun x=>?_,fun x=>x.elim⟩
  obtain ⟨j,o,hj,ho,_⟩:=c1.hnd i x
  rw [f1 j hj] at ho;cases ho
 subst hA
 refine ⟨_,S1,_,rfl,rfl,⟨c1.sb.mono (by rw [hieq];omega) (by omega),c1.thr,fun i hi4 hh=>?_,hE.li.viol,hE.ef,f5⟩,?_⟩
 · obtain ⟨j,hj,o,ho,_⟩:=hE.li.h2 i hi4 hh
   rw [f1 j hj] at ho;cases ho
 refine (pw_def times picks hpk hL hH s0 _ _ hok).2 fun y hy=>?_
 obtain ⟨y,cur⟩:=y
 by_cases u : y.i < rndsN times picks
 · have ht4:=htp y.i
   cases ho : y.cs (tpI picks y.i) with
   | none=>exact pw_none times picks hpk hL hH s0 _ _ hok hy u rfl ht4 ho
   | some o=>exact pw_some times picks hpk hL hH s0 _ _ hok hy u rfl ht4 ho
 · have h1:=hy.i
   have h2:=hy.run
   dsimp only at h1 h2
   have e : y = PS.run times (tpI picks) (ps0 times s0) (rndsN times picks):=by
    rw [show y.i = rndsN times picks by omega] at h2;exact h2
   refine pw_exit times picks hpk hL hH s0 _ _ hok hy u (by rw [e]) (by rw [e]) ?_ ?_ ?_ ?_ ?_ ?_
   · dsimp only;rw [e];exact f1
   · dsimp only;rw [e];exact f2
   · dsimp only;rw [e];exact f3
   · dsimp only;rw [e];exact f4
   · dsimp only;rw [e];exact f5
   · dsimp only;rw [e];exact f6
set_option maxRecDepth 10000
theorem SOk.live_idle {n : Nat} {s : Sto} {S : List Item} {A : Nat → Prop} {K : Nat} (h : SOk n s S A K) : s.idle.length + liveN s.pics = n:=by
 have:=filter_split (fun i=>s.st i = 0) (List.range n)
 rw [List.length_range] at this
 rw [h.idle_eq,h.live_eq];exact this
end Go.Proofs.YtcffiehcdadimaaGreat.Abs
