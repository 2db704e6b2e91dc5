/- Insertions of many threads that are played to their end: a round of a running call. -/
import Derived.Test.YtcffiehcdadimaaGreatMH
namespace Go.Proofs.YtcffiehcdadimaaGreat.Abs
open Go.Proofs
set_option maxRecDepth 10000
set_option linter.unusedSimpArgs false
set_option linter.unusedVariables false
theorem ibc_some {cs : Nat → Option IOp} {t : Nat} {o : IOp} (h : cs t = some o) : famO (ibc cs 0) 20 12 t = [(20,o.blkB 0 (fun x=>20 + x) 0),(21,o.blkB 0 (fun x=>20 + x) 1),(22,o.blkB 0 (fun x=>20 + x) 2),(23,o.blkB 0 (fun x=>20 + x) 3),(24,o.blkB 0 (fun x=>20 + x) 4),(25,o.blkB 0 (fun x=>20 + x) 5),(26,o.blkB 0 (fun x=>20 + x) 6),(27,o.blkB 0 (fun x=>20 + x) 7),(28,o.blkB 0 (fun x=>20 + x) 8),(29,o.blkB 0 (fun x=>20 + x) 9),(30,o.blkB 0 (fun x=>20 + x) 10),(31,o.blkB 0 (fun x=>20 + x) 11)]:=by
 unfold famO ibc
 rw [h]
 rfl
theorem pw_sub {b : Nat} (hb : 88 ≤ b) {T : List V} (y : PS) {cur t : Nat} (hc : cur < 4) (ht : t < 4) (hT : ((namesOf T).all fun n=>outN 20 (40 + 12 * 4) n && Nat.blt n b) = true) (hH : fixH 20 (40 + 12 * 4) b (pwC y) = true) (hS : ([0].all fun n=>outN 20 (40 + 12 * 4) n && Nat.blt n b) = true) :
 Sub (Lt 5) ⟨tAt T,hAt (pwH (y,cur) ++ pwF (y,cur)),b,T.length⟩ ⟨tAt T,hAt (pwH (y,t) ++ pwF (y,t)),b,T.length⟩:=by
 refine fam_sub (k:=12) (m:=4) (eo:=20) (lo:=40) (ibc_bun y.cs 0) (by decide) (by decide) hb hS hc ht (A:=pwA y) (Hc:=pwC y) hT ?_ hH rfl
 intro p hp
 rw [pwA,List.mem_singleton] at hp
 subst hp
 exact ⟨rfl,by dsimp only;omega,arrP_below _ (by decide) hb (by decide),arrP_ren _ (by decide) (by decide)⟩
theorem tpI_lt (picks : List Int) (hpk : ∀ y ∈ picks,0 ≤ y ∧ y ≤ 255) (i : Nat) : tpI picks i < 4:=by
 unfold tpI
 split
 · next h=>
   have h1:=hpk (picks.getD i 0) (by rw [List.getD_eq_getElem?_getD,List.getElem?_eq_getElem h];exact List.getElem_mem h)
   have h2:=Int.tmod_nonneg (b:=4) h1.1
   have h3:=(tmod_bounds (picks.getD i 0) 4 (by omega)).2
   omega
 · exact Nat.mod_lt _ (by omega)
theorem tpI_pick {picks : List Int} (hpk : ∀ y ∈ picks,0 ≤ y ∧ y ≤ 255) {i : Nat} {p : Int} (h : picks[i]? = some p) : p.tmod 4 = (tpI picks i : Int):=by
 have hl:=getlt h
 have h1:=hpk p (List.mem_of_getElem? h)
 have h2:=Int.tmod_nonneg (b:=4) h1.1
 unfold tpI
 rw [if_pos hl,List.getD_eq_getElem?_getD,h]
 show p.tmod 4 = ((p.tmod 4).toNat : Int)
 omega
theorem tpI_rr {picks : List Int} {i : Nat} (h : ¬ i < picks.length) : (i : Int).tmod 4 = (tpI picks i : Int):=by
 unfold tpI
 rw [if_neg h,Int.tmod_eq_emod_of_nonneg (by omega)]
 push_cast;rfl
theorem mine_at {f : Nat → Nat} {t sz : Nat} (ht : t < 4) (hz : sz = 1) : (arr4 fun j=>V.int (f j))[0 + t * sz]? = some (V.int (f t)):=by
 subst hz
 rw [show 0 + t * 1 = t by omega,arr4_get _ ht]
theorem PWOk.go {n : Nat} {T v n0 : Int} {f0 : Nat} {times picks : List Int} {s0 : Sto} {y : PS} {cur : Nat} (h : PWOk n T v n0 f0 times picks s0 (y,cur)) (u : y.i < rndsN times picks) (hrn : rndsN times picks ≤ 10000) {t : Nat} (ht : tpI picks y.i = t) (ht4 : t < 4) {o : IOp} (ho : y.cs t = some o) : PWOk n T v n0 f0 times picks s0 (y.go t o,t):=by
 have e : y.rnd times t = y.go t o:=by unfold PS.rnd;rw [ho]
 refine ⟨ht4,u,?_,h.ok.go ht4 ho (by dsimp only at u ⊢;omega)⟩
 show y.go t o = PS.run times (tpI picks) (ps0 times s0) (y.i + 1)
 have h1 : y = PS.run times (tpI picks) (ps0 times s0) y.i:=h.run
 show _ = (PS.run times (tpI picks) (ps0 times s0) y.i).rnd times (tpI picks y.i)
 rw [← h1,ht,e]
theorem PI.opn4 {n len : Nat} {T v n0 : Int} {f0 : Nat} {y : PS} (h : PI n len T v n0 f0 y) : 0 ≤ y.opn ∧ y.opn ≤ 4:=by
 have h1 : ∀ o : Option IOp,oneO o ≤ 1:=fun o=>by cases o <;> simp [oneO]
 have:=h.opn
 unfold cnt4 at this
 have a:=h1 (y.cs 0);have b:=h1 (y.cs 1);have c:=h1 (y.cs 2);have d:=h1 (y.cs 3)
 dsimp only at this
 omega
theorem PWOk.holder {n : Nat} {T v n0 : Int} {f0 : Nat} {times picks : List Int} {s0 : Sto} {y : PS} {cur t : Nat} (h : PWOk n T v n0 f0 times picks s0 (y,cur)) (ht : y.cs t = none) {i : Nat} (hi : i < 4) : ¬ (if (y.s.m.held i).1 = true then (y.s.m.held i).2 else -1) = (t : Int):=by
 split
 · next hh=>exact h.ok.free ht hi hh
 · omega
theorem PWOk.holdC {n : Nat} {T v n0 : Int} {f0 : Nat} {times picks : List Int} {s0 : Sto} {y : PS} {cur : Nat} (h : PWOk n T v n0 f0 times picks s0 (y,cur)) {i : Nat} (hi : i < 4) :
 LSpec Tryz.prog 44 [.p 0 4 0 0,V.int i] (memB y.s.m 1) 4 (V.int (if (y.s.m.held i).1 = true then (y.s.m.held i).2 else -1)) (memB y.s.m 1) 4:=by
 obtain ⟨S,A,hci⟩:=h.ok.ci
 dsimp only at hci
 exact holderC y.s.m i (by rw [hci.sb.nm];exact hi) hci.sb.fits.mem
theorem arr_free2 {α : Type} {cs : Nat → Option α} {t z off k sz : Nat} {w : V} (ht : t < 4) (hz : sz = 1) : spliceV (arr4 (upd (fun j=>ptrI (cs j) (bs 20 40 k t j + off) z) t w)) (0 + t * sz) [.c (.pointer none)] = arr4 fun j=>ptrI (upd cs t none j) (bs 20 40 k t j + off) z:=by
 rw [arr_put ht hz,upd_upd]
 refine arr4_congr fun j _=>?_
 by_cases e : j = t
 · subst e;rw [upd_same,upd_same];rfl
 · rw [upd_ne _ _ _ _ e,upd_ne _ _ _ _ e]
theorem arr_free {α : Type} {cs : Nat → Option α} {t z off k sz : Nat} (ht : t < 4) (hz : sz = 1) : spliceV (arr4 fun j=>ptrI (cs j) (bs 20 40 k t j + off) z) (0 + t * sz) [.c (.pointer none)] = arr4 fun j=>ptrI (upd cs t none j) (bs 20 40 k t j + off) z:=by
 have h:=arr_free2 (cs:=cs) (z:=z) (off:=off) (k:=k) (sz:=sz) (w:=.c (.pointer none)) ht hz
 rw [arr_put ht hz,upd_upd] at h
 rw [arr_put ht hz];exact h
theorem arr_gone {α : Type} {cs : Nat → Option α} {t z off k : Nat} {ρ : List (Nat × Nat)} (hρ : (ρ.all fun p=>outN 40 (40 + k * 4) p.1) = true) (hk : off < k) : B.rows 4 [arr4 fun j=>ptrI (upd cs t none j) (bs 20 40 k t j + off) z] = renB (ren1 ρ) (arrP (upd cs t none) z off k t):=
 arrG hρ hk (fun j e=>by rw [upd_ne _ _ _ _ e]) (by rw [upd_same];rfl)
theorem re_done {o : IOp} (h : o.done = true) : o.re = o.e ∧ o.rh = o.h:=by
 unfold IOp.done at h
 unfold IOp.re IOp.rh
 split at h
 · next e=>rw [e];exact ⟨rfl,rfl⟩
 · cases h
set_option maxHeartbeats 16000000 in
theorem pw_some (times picks : List Int) (hpk : ∀ y ∈ picks,0 ≤ y ∧ y ≤ 255) (hL : picks.length ≤ 200) (hH : times.length ≤ 20) {n : Nat} {T v n0 : Int} {f0 : Nat} (s0 s1 : Sto) (el : List (Int × Int)) (h0 : PWOk n T v n0 f0 times picks s0 (ps0 times s0,0))
 {y : PS} {cur : Nat} (hy : PWOk n T v n0 f0 times picks s0 (y,cur)) (u : y.i < rndsN times picks) {t : Nat} (ht : tpI picks y.i = t) (ht4 : t < 4) {o : IOp} (ho : y.cs t = some o) :
 (pw_def times picks hpk hL hH s0 s1 el h0).1 (y,cur):=by
 have hml : (picks.map u8D).length = picks.length:=List.length_map ..
 have hmh : (times.map intD).length = times.length:=List.length_map ..
 refine RoundG.mk (y,t) _ _ (pw_sub (by decide) y hy.cur ht4 rfl rfl rfl) (congrArg (fun E=>hAt (E ++ _)) (ibc_some ho)) (fam_shut (k:=12) (m:=4) (lo:=40) (ibc_bun _ 0) (by decide) (by decide)) (by rfl) (go ?_)
 rw [hml,hmh]
 have hun : y.i < picks.length + 40 * times.length + 40:=u
 rw [decide_eq_true (show (y.i : Int) < picks.length + 40 * times.length + 40 by omega)]
 have hi : y.i ≤ rndsN times picks:=hy.i
 have hrn : rndsN times picks ≤ 10000:=by unfold rndsN;omega
 obtain ⟨S,A,hci⟩:=hy.ok.ci
 obtain ⟨hok,hth⟩:=hci.ops t o ht4 ho
 have a1:=iStepC hci.sb (by dsimp only;omega) hci.thr hok
 have hgo:=hy.go u hrn ht ht4 ho
 have hord : y.ord.length ≤ 20:=by
  have h1:=hy.ok.cnt;have h2:=hy.ok.nx;dsimp only at h1 h2;omega
 have hmy : y.mine t < y.res.length:=by
  have h1:=hy.ok.mn t ht4 (by rw [ho];simp);have h2:=hy.ok.nx;have h3:=hy.ok.rl;dsimp only at h1 h2 h3;omega
 have hopn:=hy.ok.opn4
 dsimp only at hopn
 obtain ⟨rw0,hrm⟩ : ∃ r,y.res[y.mine t]? = some r:=⟨_,List.getElem?_eq_getElem hmy⟩
 obtain ⟨o1,s2,hr⟩ : ∃ o1 s2,o.step y.s = (o1,s2):=⟨_,_,rfl⟩
 rw [hr] at a1
 unfold PS.go at hgo
 rw [hr] at hgo
 dsimp only at a1 hgo
 (refine goj ?_; try trivial)
 refine joinO tab_ok mix [6,7,8,9,20,21,22,23,24,25,26,27,28,29,30,31] [0,1,2,8,9,10,11,12,13,14] [6,7,8,9,0,1,10,3,4,20,21,22,23,24,25,26,27,28,29,30,31] (fun z : Nat=>[(15,V.int z)]) (fun z=>[]) (fun z=>t = z) ?_ ?_
 · (refine go ?_; try exact True.intro)
   rw [hml]
   by_cases v : y.i < picks.length
   · obtain ⟨p,hp⟩:=get_lt v
     obtain ⟨pb1,pb2⟩:=hpk p (List.mem_of_getElem? hp)
     rw [decide_eq_true (show ((y.i : Nat) : Int) < picks.length by omega)]
     (refine go ?_; try exact True.intro)
     refine idxB hp (go ?_)
     rw [tpI_pick hpk hp,ht]
     refine .mk [] _ rfl (go ?_)
     refine BO.mk _ rfl (renB_nil _).symm (arrP_below (k:=12) y.cs (by decide) (by decide) (by decide)) (go ?_)
     refine BO.mk _ rfl (renB_nil _).symm (mineB_below _ _) (go ?_)
     refine BO.mk _ rfl (renB_nil _).symm trivial (go ?_)
     refine BO.mk _ rfl (renB_nil _).symm trivial (go ?_)
     iterate 12 (refine boBlk (o:=o) (st:=0) (ν:=fun x=>20 + x) (fun x=>20 + x) ?_ (by rfl) (by rfl) (by decide) (by decide) (by decide);(refine go ?_; try exact True.intro))
   · rw [decide_eq_false (show ¬ ((y.i : Nat) : Int) < picks.length by omega)]
     (refine go ?_; try exact True.intro)
     rw [tpI_rr v,ht]
     refine .mk [] _ rfl (go ?_)
     refine BO.mk _ rfl (renB_nil _).symm (arrP_below (k:=12) y.cs (by decide) (by decide) (by decide)) (go ?_)
     refine BO.mk _ rfl (renB_nil _).symm (mineB_below _ _) (go ?_)
     refine BO.mk _ rfl (renB_nil _).symm trivial (go ?_)
     refine BO.mk _ rfl (renB_nil _).symm trivial (go ?_)
     iterate 12 (refine boBlk (o:=o) (st:=0) (ν:=fun x=>20 + x) (fun x=>20 + x) ?_ (by rfl) (by rfl) (by decide) (by decide) (by decide);(refine go ?_; try exact True.intro))
 rintro _ rfl
 (refine go ?_; try exact True.intro)
 refine atB ht4 (go ?_)
 refine optK_eq (arr_some ho ht4 rfl rfl) (go ?_)
 refine atB ht4 (go ?_)
 refine optK_eq (arr_some ho ht4 rfl rfl) (go ?_)
 refine callO a1 [some 20,some 21,some 22,some 23,some 24,some 25,some 26,some 27,some 28,some 29,some 30,some 31,some 0,some 1,some 10,some 3,some 4] [] _ _ _ (iB0_at (ν:=fun x=>20 + x) o y.s (by decide) rfl rfl rfl rfl rfl) (iB1_at (ν:=fun x=>match x with | 0=>20 | x=>2368 + x) o1 s2 rfl (by decide) rfl rfl rfl rfl rfl) rfl rfl (go ?_)
 refine atB ht4 (go ?_)
 refine optK_eq (arr_some ho ht4 rfl rfl) (go ?_)
 refine callO (iEffectC o1 s2) [some 20,some 2369,some 2370,some 2371,some 2372,some 2373,some 2374,some 2375,some 2376,some 2377,some 2378,some 2379,some 0,some 1,some 2368,some 3,some 4] [] _ _ _ (iB0_at (ν:=fun x=>match x with | 0=>20 | x=>2368 + x) o1 s2 (by decide) rfl rfl rfl rfl rfl) (iB0_at (ν:=fun x=>match x with | 0=>20 | x=>2368 + x) o1 s2 (by decide) rfl rfl rfl rfl rfl) rfl rfl (go ?_)
 rcases Bool.eq_false_or_eq_true o1.eff with hef | hef
 · rw [hef]
   (refine go ?_; try exact True.intro)
   refine atB ht4 (go ?_)
   refine optK_eq (mine_at ht4 rfl) (go ?_)
   rcases Bool.eq_false_or_eq_true o1.done with hd | hd
   · rw [hd]
     (refine go ?_; try exact True.intro)
     refine atB ht4 (go ?_)
     refine optK_eq (mine_at ht4 rfl) (go ?_)
     refine atB ht4 (go ?_)
     refine optK_eq (arr_some ho ht4 rfl rfl) (go ?_)
     refine dcallRO (iResultC o1 s2) [some 20,some 2369,some 2370,some 2371,some 2372,some 2373,some 2374,some 2375,some 2376,some 2377,some 2378,some 2379,some 0,some 1,some 2368,some 3,some 4] _ _ (iB0_at (ν:=fun x=>match x with | 0=>20 | x=>2368 + x) o1 s2 (by decide) rfl rfl rfl rfl rfl) rfl (go ?_)
     refine atB hmy (go ?_)
     refine getB hrm (go ?_)
     refine atB ht4 (go ?_)
     refine okK_eq (okPut ht4 rfl) (go ?_)
     refine listK_eq (arr_free ht4 rfl) (go ?_)
     refine wrB (by show -9223372036854775808 ≤ y.opn - 1 ∧ y.opn - 1 ≤ 9223372036854775807;omega) (go ?_)
     rw [hef,hd,left_done hd] at hgo
     refine loopO tab_ok mix [6] [0,1,2,8,9,10,11,12,13,14,15] [0,1,3,4,2368,6,7,8,3072] (fun m : Nat=>[(17,V.int m)]) (fun m=>[]) (fun m=>m ≤ 4) (fun m=>4 - m) [] 0 rfl (by omega) ?_ ?_
     · (refine go ?_; try exact True.intro)
       refine BO.mk _ rfl (renB_nil _).symm (arrP_below (k:=12) (upd y.cs t none) (by decide) (by decide) (by decide)) (go ?_);try exact True.intro
     intro m hm
     (refine go ?_; try exact True.intro)
     by_cases hm4 : m < 4
     · rw [decide_eq_true (show (m : Int) < 4 by omega)]
       (refine go ?_; try exact True.intro)
       refine callL (memoryC s2) [some 0,some 1,some 2368,some 3,some 4] [] rfl (go ?_)
       refine callL (hgo.holdC hm4) [some 1,some 2368,some 3,some 4] [] rfl (go ?_)
       rw [decide_eq_false (hgo.holder (upd_same ..) hm4)]
       (refine go ?_; try exact True.intro)
       refine .mk [] (m + 1) (by omega) (by omega) (go ?_)
       refine BO.mk _ rfl (renB_nil _).symm (arrP_below (k:=12) (upd y.cs t none) (by decide) (by decide) (by decide)) (go ?_);try exact True.intro
     rw [decide_eq_false (show ¬ (m : Int) < 4 by omega)]
     (refine go ?_; try exact True.intro)
     refine wrB (by show -9223372036854775808 ≤ (y.i : Int) + 1 ∧ (y.i : Int) + 1 ≤ 9223372036854775807;omega) (go ?_)
     refine .mk [(10,2368),(9,3072)] (⟨y.i + 1,y.nx,y.opn - 1,s2,upd y.cs t none,y.mine,y.res.set (y.mine t) (o1.e,o1.h),y.ord ++ [y.mine t],y.el ++ [(o1.e,o1.h)]⟩,t) [(20,.dat 1 []),(21,.dat 1 []),(22,.dat 1 []),(23,.dat 1 []),(24,.dat 1 []),(25,.dat 1 []),(26,.dat 1 []),(27,.dat 1 []),(28,.dat 1 []),(29,.dat 1 []),(30,.dat 1 []),(31,.dat 1 [])] hgo (by show rndsN times picks - (y.i + 1) < rndsN times picks - y.i;omega) (by unfold pwF;dsimp only;rw [famC_upd,ibc_none (upd_same ..)]) (go ?_)
     refine BO.mk _ rfl (arr_gone rfl (by decide)) (arrP_below _ (by decide) (by decide) (by decide)) (go ?_)
     refine BO.mk _ rfl (by rfl) (mineB_below _ _) (go ?_)
     refine BO.mk _ rfl (by rw [(re_done hd).1,(re_done hd).2];simp [List.map_set,resR,renB]) trivial (go ?_)
     refine BO.mk _ rfl (by simp [natD,intD,renB]) trivial (go ?_)
     iterate 12 (refine BO.no rfl trivial ?_;(refine go ?_; try exact True.intro))
   · rw [hd]
     (refine go ?_; try exact True.intro)
     rw [hef,hd,left_run hd] at hgo
     refine wrB (by show -9223372036854775808 ≤ (y.i : Int) + 1 ∧ (y.i : Int) + 1 ≤ 9223372036854775807;omega) (go ?_)
     refine .mk [(10,2368),(9,3072),(21,2369),(22,2370),(23,2371),(24,2372),(25,2373),(26,2374),(27,2375),(28,2376),(29,2377),(30,2378),(31,2379)] (⟨y.i + 1,y.nx,y.opn,s2,upd y.cs t (some o1),y.mine,y.res,y.ord ++ [y.mine t],y.el ++ [(o1.e,o1.h)]⟩,t) [(20,o1.blkB 0 (fun x=>20 + x) 0),(21,o1.blkB 0 (fun x=>20 + x) 1),(22,o1.blkB 0 (fun x=>20 + x) 2),(23,o1.blkB 0 (fun x=>20 + x) 3),(24,o1.blkB 0 (fun x=>20 + x) 4),(25,o1.blkB 0 (fun x=>20 + x) 5),(26,o1.blkB 0 (fun x=>20 + x) 6),(27,o1.blkB 0 (fun x=>20 + x) 7),(28,o1.blkB 0 (fun x=>20 + x) 8),(29,o1.blkB 0 (fun x=>20 + x) 9),(30,o1.blkB 0 (fun x=>20 + x) 10),(31,o1.blkB 0 (fun x=>20 + x) 11)] hgo (by show rndsN times picks - (y.i + 1) < rndsN times picks - y.i;omega) (by unfold pwF;dsimp only;rw [famC_upd,ibc_some (upd_same ..)]) (go ?_)
     refine BO.mk _ rfl (arr_kept rfl (by decide) ho rfl) (arrP_below _ (by decide) (by decide) (by decide)) (go ?_)
     refine BO.mk _ rfl (by rfl) (mineB_below _ _) (go ?_)
     refine BO.mk _ rfl (by rfl) trivial (go ?_)
     refine BO.mk _ rfl (by simp [natD,intD,renB]) trivial (go ?_)
     iterate 12 (refine boBlk (o:=o1) (st:=0) (ν:=fun x=>20 + x) (fun x=>match x with | 0=>20 | x=>2368 + x) ?_ (by rfl) (by rfl) (by decide) (by decide) (by decide);(refine go ?_; try exact True.intro))
 · rw [hef]
   (refine go ?_; try exact True.intro)
   rcases Bool.eq_false_or_eq_true o1.done with hd | hd
   · rw [hd]
     (refine go ?_; try exact True.intro)
     refine atB ht4 (go ?_)
     refine optK_eq (mine_at ht4 rfl) (go ?_)
     refine atB ht4 (go ?_)
     refine optK_eq (arr_some ho ht4 rfl rfl) (go ?_)
     refine dcallRO (iResultC o1 s2) [some 20,some 2369,some 2370,some 2371,some 2372,some 2373,some 2374,some 2375,some 2376,some 2377,some 2378,some 2379,some 0,some 1,some 2368,some 3,some 4] _ _ (iB0_at (ν:=fun x=>match x with | 0=>20 | x=>2368 + x) o1 s2 (by decide) rfl rfl rfl rfl rfl) rfl (go ?_)
     refine atB hmy (go ?_)
     refine getB hrm (go ?_)
     refine atB ht4 (go ?_)
     refine okK_eq (okPut ht4 rfl) (go ?_)
     refine listK_eq (arr_free ht4 rfl) (go ?_)
     refine wrB (by show -9223372036854775808 ≤ y.opn - 1 ∧ y.opn - 1 ≤ 9223372036854775807;omega) (go ?_)
     rw [hef,hd,left_done hd] at hgo
     refine loopO tab_ok mix [6] [0,1,2,8,9,10,11,12,13,14,15] [0,1,3,4,2368,6,7,8,9] (fun m : Nat=>[(17,V.int m)]) (fun m=>[]) (fun m=>m ≤ 4) (fun m=>4 - m) [] 0 rfl (by omega) ?_ ?_
     · (refine go ?_; try exact True.intro)
       refine BO.mk _ rfl (renB_nil _).symm (arrP_below (k:=12) (upd y.cs t none) (by decide) (by decide) (by decide)) (go ?_);try exact True.intro
     intro m hm
     (refine go ?_; try exact True.intro)
     by_cases hm4 : m < 4
     · rw [decide_eq_true (show (m : Int) < 4 by omega)]
       (refine go ?_; try exact True.intro)
       refine callL (memoryC s2) [some 0,some 1,some 2368,some 3,some 4] [] rfl (go ?_)
       refine callL (hgo.holdC hm4) [some 1,some 2368,some 3,some 4] [] rfl (go ?_)
       rw [decide_eq_false (hgo.holder (upd_same ..) hm4)]
       (refine go ?_; try exact True.intro)
       refine .mk [] (m + 1) (by omega) (by omega) (go ?_)
       refine BO.mk _ rfl (renB_nil _).symm (arrP_below (k:=12) (upd y.cs t none) (by decide) (by decide) (by decide)) (go ?_);try exact True.intro
     rw [decide_eq_false (show ¬ (m : Int) < 4 by omega)]
     (refine go ?_; try exact True.intro)
     refine wrB (by show -9223372036854775808 ≤ (y.i : Int) + 1 ∧ (y.i : Int) + 1 ≤ 9223372036854775807;omega) (go ?_)
     refine .mk [(10,2368)] (⟨y.i + 1,y.nx,y.opn - 1,s2,upd y.cs t none,y.mine,y.res.set (y.mine t) (o1.e,o1.h),y.ord,y.el⟩,t) [(20,.dat 1 []),(21,.dat 1 []),(22,.dat 1 []),(23,.dat 1 []),(24,.dat 1 []),(25,.dat 1 []),(26,.dat 1 []),(27,.dat 1 []),(28,.dat 1 []),(29,.dat 1 []),(30,.dat 1 []),(31,.dat 1 [])] hgo (by show rndsN times picks - (y.i + 1) < rndsN times picks - y.i;omega) (by unfold pwF;dsimp only;rw [famC_upd,ibc_none (upd_same ..)]) (go ?_)
     refine BO.mk _ rfl (arr_gone rfl (by decide)) (arrP_below _ (by decide) (by decide) (by decide)) (go ?_)
     refine BO.mk _ rfl (by rfl) (mineB_below _ _) (go ?_)
     refine BO.mk _ rfl (by rw [(re_done hd).1,(re_done hd).2];simp [List.map_set,resR,renB]) trivial (go ?_)
     refine BO.mk _ rfl (by rfl) trivial (go ?_)
     iterate 12 (refine BO.no rfl trivial ?_;(refine go ?_; try exact True.intro))
   · rw [hd]
     (refine go ?_; try exact True.intro)
     rw [hef,hd,left_run hd] at hgo
     refine wrB (by show -9223372036854775808 ≤ (y.i : Int) + 1 ∧ (y.i : Int) + 1 ≤ 9223372036854775807;omega) (go ?_)
     refine .mk [(10,2368),(21,2369),(22,2370),(23,2371),(24,2372),(25,2373),(26,2374),(27,2375),(28,2376),(29,2377),(30,2378),(31,2379)] (⟨y.i + 1,y.nx,y.opn,s2,upd y.cs t (some o1),y.mine,y.res,y.ord,y.el⟩,t) [(20,o1.blkB 0 (fun x=>20 + x) 0),(21,o1.blkB 0 (fun x=>20 + x) 1),(22,o1.blkB 0 (fun x=>20 + x) 2),(23,o1.blkB 0 (fun x=>20 + x) 3),(24,o1.blkB 0 (fun x=>20 + x) 4),(25,o1.blkB 0 (fun x=>20 + x) 5),(26,o1.blkB 0 (fun x=>20 + x) 6),(27,o1.blkB 0 (fun x=>20 + x) 7),(28,o1.blkB 0 (fun x=>20 + x) 8),(29,o1.blkB 0 (fun x=>20 + x) 9),(30,o1.blkB 0 (fun x=>20 + x) 10),(31,o1.blkB 0 (fun x=>20 + x) 11)] hgo (by show rndsN times picks - (y.i + 1) < rndsN times picks - y.i;omega) (by unfold pwF;dsimp only;rw [famC_upd,ibc_some (upd_same ..)]) (go ?_)
     refine BO.mk _ rfl (arr_kept rfl (by decide) ho rfl) (arrP_below _ (by decide) (by decide) (by decide)) (go ?_)
     refine BO.mk _ rfl (by rfl) (mineB_below _ _) (go ?_)
     refine BO.mk _ rfl (by rfl) trivial (go ?_)
     refine BO.mk _ rfl (by rfl) trivial (go ?_)
     iterate 12 (refine boBlk (o:=o1) (st:=0) (ν:=fun x=>20 + x) (fun x=>match x with | 0=>20 | x=>2368 + x) ?_ (by rfl) (by rfl) (by decide) (by decide) (by decide);(refine go ?_; try exact True.intro))
end Go.Proofs.YtcffiehcdadimaaGreat.Abs
