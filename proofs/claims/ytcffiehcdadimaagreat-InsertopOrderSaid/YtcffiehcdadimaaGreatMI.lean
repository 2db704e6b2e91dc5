/- Insertions of many threads that are played to their end: the contract. -/
import Derived.Test.YtcffiehcdadimaaGreatM35
import Derived.Test.YtcffiehcdadimaaGreatMF
namespace Go.Proofs.YtcffiehcdadimaaGreat.Abs
open Go.Proofs
set_option linter.unusedSimpArgs false
set_option linter.unusedVariables false
theorem PI.zero {n : Nat} {s0 : Sto} {S : List Item} (hr : Ready n s0 S) (times : List Int) : PI n times.length s0.q.topStart 0 s0.next s0.idle.length (ps0 times s0):=by
 have hthr : s0.m.Thr:=thr_of hr.ok.nm fun i hi h=>by rw [hr.free i hi] at h;cases h
 have c0 : cnt4 (fun j=>oneO ((ps0 times s0).cs j)) = 0:=rfl
 refine ⟨⟨S,fun _=>False,hr.ok,hthr,fun j o _ h=>(by cases h),fun i h=>h.elim,fun j j' o o' i _ _ h=>(by cases h)⟩,
  ⟨rfl,fun i j _ _ h=>?_,fun i hi h=>?_,fun j o _ h=>(by cases h),fun j o i _ h=>(by cases h),hr.viol⟩,
  ⟨?_,?_,fun p e h hp=>?_⟩,Nat.zero_le _,rfl,?_,fun j _ h=>absurd rfl h,fun j k _ _ h=>absurd rfl h,rfl,fun p k h=>?_,rfl⟩
 · obtain ⟨o,ho,_⟩:=h;cases ho
 · rw [show (ps0 times s0).s = s0 from rfl,hr.free i hi] at h;cases h
 · show s0.next = s0.next + (0 : Nat);simp
 · show s0.idle.length + 0 = _;simp
 · cases hp
 · show (List.replicate times.length ((0 : Int),(0 : Int))).length = _;simp
 · cases h
structure Played (n : Nat) (s0 : Sto) (S : List Item) (times : List Int) (s1 : Sto) (S1 : List Item) (el : List (Int × Int)) : Prop where
 sb : SB n s1 S1 (fun _=>False) 20000
 thr : s1.m.Thr
 free : ∀ i,i < 4 → ¬ (s1.m.held i).1 = true
 viol : s1.m.viol = 0
 ef : EF n s0.next s0.idle.length s1 el
 len : el.length = times.length
theorem playG {n : Nat} {s0 : Sto} {S : List Item} (hr : Ready n s0 S) (times picks : List Int) (hpk : ∀ y ∈ picks,0 ≤ y ∧ y ≤ 255) (hL : picks.length ≤ 200) (hH : times.length ≤ 20) :
 ∃ s1 S1 el,s1 = (PS.run times (tpI picks) (ps0 times s0) (rndsN times picks)).s ∧ el = (PS.run times (tpI picks) (ps0 times s0) (rndsN times picks)).el ∧ Played n s0 S times s1 S1 el ∧ LSpec Tryz.prog 43 [.p 0 10 0 0,intsV times,u8sV picks] (stoB s0 2) 5 (.tup [.lst 4 (el.map resR) false,V.bool true]) (stoB s1 5) 6:=by
 have h0:=PI.zero hr times
 have htp : ∀ i,tpI picks i < 4:=tpI_lt picks hpk
 have hrn : rndsN times picks ≤ 10000:=by unfold rndsN;omega
 have hz:=h0.end htp rfl (lp:=picks.length) (fun i hi=>by unfold tpI;rw [if_neg (by omega)]) (by omega) (by unfold PS.phi;show 0 + 9 * (times.length - 0) ≤ _;omega)
 have hrun : ∀ i,i ≤ 10000 → PI n times.length s0.q.topStart 0 s0.next s0.idle.length (PS.run times (tpI picks) (ps0 times s0) i):=h0.run htp rfl
 have hi : ∀ i,(PS.run times (tpI picks) (ps0 times s0) i).i = i:=fun i=>by rw [run_i];show 0 + i = i;omega
 have hE:=hrun (rndsN times picks) hrn
 obtain ⟨f1,f2,f3,f4,f5,f6⟩:=hE.fin hz
 have hieq:=hi (rndsN times picks)
 have hok : PWOk n s0.q.topStart 0 s0.next s0.idle.length times picks s0 (ps0 times s0,0):=⟨by show 0 < 4;omega,Nat.zero_le _,rfl,h0⟩
 obtain ⟨S1,A1,c1⟩:=hE.ci
 have hA : A1 = fun _=>False:=by
  funext i
  refine propext ⟨fun x=>?_,fun x=>x.elim⟩
  obtain ⟨j,o,hj,ho,_⟩:=c1.hnd i x
  rw [f1 j hj] at ho;cases ho
 subst hA
 refine ⟨_,S1,_,rfl,rfl,⟨c1.sb.mono (by rw [hieq];omega) (by omega),c1.thr,fun i hi4 hh=>?_,hE.li.viol,hE.ef,f5⟩,?_⟩
 · obtain ⟨j,hj,o,ho,_⟩:=hE.li.h2 i hi4 hh
   rw [f1 j hj] at ho;cases ho
 refine (pw_def times picks hpk hL hH s0 _ _ hok).2 fun y hy=>?_
 obtain ⟨y,cur⟩:=y
 by_cases u : y.i < rndsN times picks
 · have ht4:=htp y.i
   cases ho : y.cs (tpI picks y.i) with
   | none=>exact pw_none times picks hpk hL hH s0 _ _ hok hy u rfl ht4 ho
   | some o=>exact pw_some times picks hpk hL hH s0 _ _ hok hy u rfl ht4 ho
 · have h1:=hy.i
   have h2:=hy.run
   dsimp only at h1 h2
   have e : y = PS.run times (tpI picks) (ps0 times s0) (rndsN times picks):=by
    rw [show y.i = rndsN times picks by omega] at h2;exact h2
   refine pw_exit times picks hpk hL hH s0 _ _ hok hy u (by rw [e]) (by rw [e]) ?_ ?_ ?_ ?_ ?_ ?_
   · dsimp only;rw [e];exact f1
   · dsimp only;rw [e];exact f2
   · dsimp only;rw [e];exact f3
   · dsimp only;rw [e];exact f4
   · dsimp only;rw [e];exact f5
   · dsimp only;rw [e];exact f6
set_option maxRecDepth 10000
theorem okN_take (l : List (Int × Int)) (k : Nat) : okN (l.take k) ≤ okN l:=by
 unfold okN
 exact (List.Sublist.filter _ (List.take_sublist k l)).length_le
theorem SOk.live_idle {n : Nat} {s : Sto} {S : List Item} {A : Nat → Prop} {K : Nat} (h : SOk n s S A K) : s.idle.length + liveN s.pics = n:=by
 have:=filter_split (fun i=>s.st i = 0) (List.range n)
 rw [List.length_range] at this
 rw [h.idle_eq,h.live_eq];exact this
set_option maxHeartbeats 8000000 in
theorem togetherG (c : Int) (l : List OpS) (times picks : List Int) {n : Nat} (hn : 1 ≤ n ∧ n ≤ 12) (s0 s1 : Sto) (S S1 : List Item) (el : List (Int × Int)) (hsz : PSpec Tryz.prog 15 [.c (.int .u8 c)] (V.int n)) (hhd : PSpec Tryz.prog 42 [] (V.bool true))
 (hp : LSpec Tryz.prog 14 [V.int n,opsSV l] [] 0 (.tup [.p 0 10 0 0,.p 5 10 0 0]) (stoB s0 2 ++ rstoAt s0 5 7) 10) (hr : Ready n s0 S)
 (hpl : picks.length ≤ 200 → times.length ≤ 20 → Played n s0 S times s1 S1 el ∧ LSpec Tryz.prog 43 [.p 0 10 0 0,intsV times,u8sV picks] (stoB s0 2) 5 (.tup [.lst 4 (el.map resR) false,V.bool true]) (stoB s1 5) 6) :
 PSpec Tryz.prog 11 [.c (.int .u8 c),opsSV l,intsV times,u8sV picks] (V.bool true):=by
 have hml : (picks.map u8D).length = picks.length:=List.length_map ..
 have hmh : (times.map intD).length = times.length:=List.length_map ..
 refine pspec tab_ok mix Tryz.func11 (by kernel_rfl) rfl rfl ?_
 (refine go ?_; try exact True.intro)
 refine callB hhd (go ?_)
 refine callB hsz (go ?_)
 refine callL hp [] [] rfl (go ?_)
 rw [hmh]
 by_cases hg1 : (20 : Int) < times.length
 · rw [decide_eq_true hg1]
   (refine go ?_; try exact True.intro)
   exact .same rfl
 rw [decide_eq_false hg1]
 (refine go ?_; try exact True.intro)
 rw [hml]
 by_cases hg2 : (200 : Int) < picks.length
 · rw [decide_eq_true hg2]
   (refine go ?_; try exact True.intro)
   exact .same rfl
 rw [decide_eq_false hg2]
 obtain ⟨hP,hC⟩:=hpl (by omega) (by omega)
 have hpk0:=hr.ok.toSOk.pics_len
 have hlen:=hP.len
 have hli0:=hr.ok.toSOk.live_idle
 have hli1:=hP.sb.toSOk.live_idle
 have hil0:=hr.ok.toSOk.items_len
 have hil1:=hP.sb.toSOk.items_len
 have hfr:=hP.ef.fr
 (refine go ?_; try exact True.intro)
 refine callL (arenaH hr.ok) [some 512,some 513,some 514,some 515,some 516] [] rfl (go ?_)
 refine callB (liveC _ _ _ (by omega)) (go ?_)
 refine callL (itemsH hr.ok) [some 512,some 513,some 514,some 515,some 516] [] rfl (go ?_)
 refine callL hC [some 512,some 513,some 514,some 515,some 516] [] rfl (go ?_)
 refine loopB tab_ok mix [9,11,13,14,15] [512,513,515,516,2496] (fun i : Nat=>[(17,V.int (okN (el.take i))),(18,V.int i)]) (fun i=>[]) (fun i=>i ≤ times.length) (fun i=>times.length - i) [] 0 rfl (by omega) ?_ ?_
 · (refine go ?_; try exact True.intro)
 intro i hi
 (refine go ?_; try exact True.intro)
 rw [List.length_map,hlen]
 by_cases hz : i < times.length
 case neg=>
  obtain rfl : i = times.length:=by omega
  rw [decide_eq_false (show ¬ (times.length : Int) < times.length by omega)]
  (refine go ?_; try exact True.intro)
  refine callL (itemsH hP.sb) [some 512,some 513,some 2496,some 515,some 516] [] rfl ?_
  rw [show el.take times.length = el by rw [← hlen,List.take_length]]
  (refine go ?_; try exact True.intro)
  rw [List.length_map,List.length_map]
  refine wrB (by omega) (go ?_)
  rw [decide_eq_true (show (S1.length : Int) = S.length + okN el by omega)]
  (refine go ?_; try exact True.intro)
  refine callL (arenaH hP.sb) [some 512,some 513,some 2496,some 515,some 516] [] rfl (go ?_)
  refine callB (valid05C _ _ _ hP.sb.toSOk.arOk) (go ?_)
  refine callL (memoryC s1) [some 512,some 513,some 2496,some 515,some 516] [] rfl (go ?_)
  refine callL (violC s1.m) [some 513,some 2496,some 515,some 516] [] rfl (go ?_)
  rw [hP.viol]
  (refine go ?_; try exact True.intro)
  exact .same rfl
 rw [decide_eq_true (show (i : Int) < times.length by omega)]
 (refine go ?_; try exact True.intro)
 obtain ⟨r,hr⟩ : ∃ r,el[i]? = some r:=⟨_,List.getElem?_eq_getElem (by omega)⟩
 refine idxB hr (go ?_)
 obtain ⟨m1,m2,m3⟩:=hP.ef.mem i r.1 r.2 hr
 have htk:=okN_take el (i + 1)
 have hstep : okN (el.take (i + 1)) = okN (el.take i) + if r.1 = 0 then 1 else 0:=by rw [take_one hr,okN_snoc]
 rcases m3 with e0 | e10 | e1
 · rw [e0]
   rw [e0,if_pos rfl] at hstep
   (refine go ?_; try exact True.intro)
   rw [decide_eq_false (show ¬ (n : Int) - liveN s0.pics < okN (el.take i) + 1 by omega)]
   (refine go ?_; try exact True.intro)
   refine .mk [] (i + 1) (by omega) (by omega) (go ?_);try exact True.intro
   repeat (refine cb (by rw [hstep];push_cast;omega) ?_;(refine go ?_; try exact True.intro))
 · rw [e10]
   rw [e10,if_neg (by omega)] at hstep
   have:=m2 e10
   (refine go ?_; try exact True.intro)
   rw [decide_eq_true (show ((okN (el.take i) : Nat) : Int) = n - liveN s0.pics by omega)]
   (refine go ?_; try exact True.intro)
   refine .mk [] (i + 1) (by omega) (by omega) (go ?_);try exact True.intro
   repeat (refine cb (by rw [hstep];push_cast;omega) ?_;(refine go ?_; try exact True.intro))
 · rw [e1]
   rw [e1,if_neg (by omega)] at hstep
   (refine go ?_; try exact True.intro)
   refine .mk [] (i + 1) (by omega) (by omega) (go ?_);try exact True.intro
   repeat (refine cb (by rw [hstep];push_cast;omega) ?_;(refine go ?_; try exact True.intro))
theorem insertopTogether (c : Int) (hc : 0 ≤ c ∧ c ≤ 255) (l : List OpS) (hl : ∀ o ∈ l,o.Ok) (times picks : List Int) (hpk : ∀ y ∈ picks,0 ≤ y ∧ y ≤ 255) :
 PSpec Tryz.prog 11 [.c (.int .u8 c),opsSV l,intsV times,u8sV picks] (V.bool true):=by
 obtain ⟨_,hn⟩:=capN_ok hc.1
 have hr:=prep_ready hn hl
 by_cases hb : picks.length ≤ 200 ∧ times.length ≤ 20
 · obtain ⟨s1,S1,el,_,_,h1,h2⟩:=playG hr times picks hpk hb.1 hb.2
   exact togetherG c l times picks hn _ s1 _ S1 el (sizeC c hc) head12C (preparedC hn l hl) hr fun _ _=>⟨h1,h2⟩
 · exact togetherG c l times picks hn _ (prepS (capN c) l) _ [] [] (sizeC c hc) head12C (preparedC hn l hl) hr fun a b=>absurd ⟨a,b⟩ hb
theorem specInsertopTogether (rows : List (List D)) (h : AllR (ShapeD tab 5) [5,22,36,23] rows) : PSpec Tryz.prog 11 (List.zipWith (argV tab) [5,22,36,23] rows) (V.bool true):=
 args12 insertopTogether rows h
end Go.Proofs.YtcffiehcdadimaaGreat.Abs
