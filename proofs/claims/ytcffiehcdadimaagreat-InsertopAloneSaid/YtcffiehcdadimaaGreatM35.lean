/- Insertions of many threads that are played to their end: a round of a new call. -/
import Derived.Test.YtcffiehcdadimaaGreatM34
namespace Go.Proofs.YtcffiehcdadimaaGreat.Abs
open Go.Proofs
set_option maxRecDepth 10000
set_option linter.unusedSimpArgs false
set_option linter.unusedVariables false
theorem mine_at2 {f : Nat → Nat} {t sz k : Nat} (hf : f t = k) (ht : t < 4) (hz : sz = 1) : (arr4 fun j=>V.int (f j))[0 + t * sz]? = some (V.int k):=by
 rw [mine_at ht hz,hf]
theorem mine_put {f : Nat → Nat} {t sz k : Nat} (ht : t < 4) (hz : sz = 1) : spliceV (arr4 fun j=>V.int (f j)) (0 + t * sz) [V.int k] = arr4 fun j=>V.int ((upd f t k j : Nat) : Int):=by
 rw [arr_put ht hz]
 refine arr4_congr fun j _=>?_
 by_cases e : j = t
 · subst e;rw [upd_same,upd_same]
 · rw [upd_ne _ _ _ _ e,upd_ne _ _ _ _ e]
theorem PWOk.rnd {n : Nat} {T v n0 : Int} {f0 : Nat} {times picks : List Int} {s0 : Sto} {y : PS} {cur : Nat} (h : PWOk n T v n0 f0 times picks s0 (y,cur)) (u : y.i < rndsN times picks) (hrn : rndsN times picks ≤ 10000) {t : Nat} (ht : tpI picks y.i = t) (ht4 : t < 4) : PWOk n T v n0 f0 times picks s0 (y.rnd times t,t):=by
 have ei : (y.rnd times t).i = y.i + 1:=rnd_i ..
 refine ⟨ht4,by dsimp only;rw [ei];exact u,?_,h.ok.rnd ht4 (by dsimp only at u ⊢;omega)⟩
 dsimp only
 rw [ei]
 have h1 : y = PS.run times (tpI picks) (ps0 times s0) y.i:=h.run
 show _ = (PS.run times (tpI picks) (ps0 times s0) y.i).rnd times (tpI picks y.i)
 rw [← h1,ht]
theorem PWOk.skip {n : Nat} {T v n0 : Int} {f0 : Nat} {times picks : List Int} {s0 : Sto} {y : PS} {cur : Nat} (h : PWOk n T v n0 f0 times picks s0 (y,cur)) (u : y.i < rndsN times picks) (hrn : rndsN times picks ≤ 10000) {t : Nat} (ht : tpI picks y.i = t) (ht4 : t < 4) (ho : y.cs t = none) (w : ¬ y.nx < times.length) :
 PWOk n T v n0 f0 times picks s0 (⟨y.i + 1,y.nx,y.opn,y.s,y.cs,y.mine,y.res,y.ord,y.el⟩,t):=by
 have e : y.rnd times t = ⟨y.i + 1,y.nx,y.opn,y.s,y.cs,y.mine,y.res,y.ord,y.el⟩:=by unfold PS.rnd;rw [ho];dsimp only;rw [if_neg w]
 rw [← e];exact h.rnd u hrn ht ht4
theorem PWOk.new {n : Nat} {T v n0 : Int} {f0 : Nat} {times picks : List Int} {s0 : Sto} {y : PS} {cur : Nat} (h : PWOk n T v n0 f0 times picks s0 (y,cur)) (u : y.i < rndsN times picks) (hrn : rndsN times picks ≤ 10000) {t : Nat} (ht : tpI picks y.i = t) (ht4 : t < 4) (ho : y.cs t = none) {raw : Int} (w : times[y.nx]? = some raw) :
 PWOk n T v n0 f0 times picks s0 ((y.new t).go t (.new t (timeI raw)),t):=by
 have hl:=getlt w
 have e : y.rnd times t = (y.new t).go t (.new t (timeI raw)):=by
  unfold PS.rnd;rw [ho];dsimp only;rw [if_pos hl,List.getD_eq_getElem?_getD,w];rfl
 rw [← e];exact h.rnd u hrn ht ht4
set_option maxHeartbeats 16000000 in
theorem pw_none (times picks : List Int) (hpk : ∀ y ∈ picks,0 ≤ y ∧ y ≤ 255) (hL : picks.length ≤ 200) (hH : times.length ≤ 20) {n : Nat} {T v n0 : Int} {f0 : Nat} (s0 s1 : Sto) (el : List (Int × Int)) (h0 : PWOk n T v n0 f0 times picks s0 (ps0 times s0,0))
 {y : PS} {cur : Nat} (hy : PWOk n T v n0 f0 times picks s0 (y,cur)) (u : y.i < rndsN times picks) {t : Nat} (ht : tpI picks y.i = t) (ht4 : t < 4) (ho : y.cs t = none) :
 (pw_def times picks hpk hL hH s0 s1 el h0).1 (y,cur):=by
 have hml : (picks.map u8D).length = picks.length:=List.length_map ..
 have hmh : (times.map intD).length = times.length:=List.length_map ..
 refine RoundG.mk (y,t) _ _ (pw_sub (by decide) y hy.cur ht4 rfl rfl rfl) (congrArg (fun E=>hAt (E ++ _)) (ibc_none ho)) (fam_shut (k:=12) (m:=4) (lo:=40) (ibc_bun _ 0) (by decide) (by decide)) (by rfl) (go ?_)
 rw [hml,hmh]
 have hun : y.i < picks.length + 40 * times.length + 40:=u
 rw [decide_eq_true (show (y.i : Int) < picks.length + 40 * times.length + 40 by omega)]
 have hi : y.i ≤ rndsN times picks:=hy.i
 have hrn : rndsN times picks ≤ 10000:=by unfold rndsN;omega
 obtain ⟨S,A,hci⟩:=hy.ok.ci
 have hord : y.ord.length ≤ 20:=by
  have h1:=hy.ok.cnt;have h2:=hy.ok.nx;dsimp only at h1 h2;omega
 have hopn:=hy.ok.opn4
 dsimp only at hopn
 (refine goj ?_; try trivial)
 refine joinO tab_ok mix [6,7,8,9,20,21,22,23,24,25,26,27,28,29,30,31] [0,1,2,8,9,10,11,12,13,14] [6,7,8,9,0,1,10,3,4,20,21,22,23,24,25,26,27,28,29,30,31] (fun z : Nat=>[(15,V.int z)]) (fun z=>[]) (fun z=>t = z) ?_ ?_
 · (refine go ?_; try exact True.intro)
   rw [hml]
   by_cases v : y.i < picks.length
   · obtain ⟨p,hp⟩:=get_lt v
     obtain ⟨pb1,pb2⟩:=hpk p (List.mem_of_getElem? hp)
     rw [decide_eq_true (show ((y.i : Nat) : Int) < picks.length by omega)]
     (refine go ?_; try exact True.intro)
     refine idxB hp (go ?_)
     rw [tpI_pick hpk hp,ht]
     refine .mk [] _ rfl (go ?_)
     refine BO.mk _ rfl (renB_nil _).symm (arrP_below (k:=12) y.cs (by decide) (by decide) (by decide)) (go ?_)
     refine BO.mk _ rfl (renB_nil _).symm (mineB_below _ _) (go ?_)
     refine BO.mk _ rfl (renB_nil _).symm trivial (go ?_)
     refine BO.mk _ rfl (renB_nil _).symm trivial (go ?_)
     iterate 12 (refine BO.no rfl trivial ?_;(refine go ?_; try exact True.intro))
   · rw [decide_eq_false (show ¬ ((y.i : Nat) : Int) < picks.length by omega)]
     (refine go ?_; try exact True.intro)
     rw [tpI_rr v,ht]
     refine .mk [] _ rfl (go ?_)
     refine BO.mk _ rfl (renB_nil _).symm (arrP_below (k:=12) y.cs (by decide) (by decide) (by decide)) (go ?_)
     refine BO.mk _ rfl (renB_nil _).symm (mineB_below _ _) (go ?_)
     refine BO.mk _ rfl (renB_nil _).symm trivial (go ?_)
     refine BO.mk _ rfl (renB_nil _).symm trivial (go ?_)
     iterate 12 (refine BO.no rfl trivial ?_;(refine go ?_; try exact True.intro))
 rintro _ rfl
 (refine go ?_; try exact True.intro)
 refine atB ht4 (go ?_)
 refine optK_eq (arr_none ho ht4 rfl) (go ?_)
 rw [hmh]
 by_cases w : y.nx < times.length
 case neg=>
  rw [decide_eq_true (show (times.length : Int) ≤ y.nx by omega)]
  (refine go ?_; try exact True.intro)
  refine wrB (by show -9223372036854775808 ≤ (y.i : Int) + 1 ∧ (y.i : Int) + 1 ≤ 9223372036854775807;omega) (go ?_)
  refine .mk [] (⟨y.i + 1,y.nx,y.opn,y.s,y.cs,y.mine,y.res,y.ord,y.el⟩,t) [(20,.dat 1 []),(21,.dat 1 []),(22,.dat 1 []),(23,.dat 1 []),(24,.dat 1 []),(25,.dat 1 []),(26,.dat 1 []),(27,.dat 1 []),(28,.dat 1 []),(29,.dat 1 []),(30,.dat 1 []),(31,.dat 1 [])] (hy.skip u hrn ht ht4 ho w) (by show rndsN times picks - (y.i + 1) < rndsN times picks - y.i;omega) (by unfold pwF;dsimp only;rw [ibc_none ho]) (go ?_)
  refine BO.mk _ rfl (renB_nil _).symm (arrP_below _ (by decide) (by decide) (by decide)) (go ?_)
  refine BO.mk _ rfl (by rfl) (mineB_below _ _) (go ?_)
  refine BO.mk _ rfl (by rfl) trivial (go ?_)
  refine BO.mk _ rfl (by rfl) trivial (go ?_)
  iterate 12 (refine BO.no rfl trivial ?_;(refine go ?_; try exact True.intro))
 rw [decide_eq_false (show ¬ (times.length : Int) ≤ y.nx by omega)]
 obtain ⟨raw,hraw⟩:=get_lt w
 have hgo:=hy.new u hrn ht ht4 ho hraw
 have hci1:=hci.new ho (timeI raw)
 obtain ⟨hok,hth⟩:=hci1.ops t (IOp.new t (timeI raw)) ht4 (upd_same ..)
 have a1:=iStepC hci1.sb (by dsimp only;omega) hci1.thr hok
 dsimp only at a1
 have hmy : y.nx < y.res.length:=by
  have h3:=hy.ok.rl;dsimp only at h3;omega
 obtain ⟨rw0,hrm⟩ : ∃ r,y.res[y.nx]? = some r:=⟨_,List.getElem?_eq_getElem hmy⟩
 (refine go ?_; try exact True.intro)
 refine atB ht4 (go ?_)
 refine okK_eq (okPut ht4 rfl) (go ?_)
 refine listK_eq (mine_put ht4 rfl) (go ?_)
 refine idxB hraw (go ?_)
 refine callB (timeIC raw) ?_
 generalize timeI raw = x at *
 obtain ⟨o1,s2,hr⟩ : ∃ o1 s2,(IOp.new t x).step y.s = (o1,s2):=⟨_,_,rfl⟩
 rw [hr] at a1
 unfold PS.go PS.new at hgo
 rw [hr] at hgo
 dsimp only at a1 hgo
 (refine go ?_; try exact True.intro)
 refine callL (iNewC y.s t ⟨1,x,0,0,0⟩) [some 0,some 1,some 10,some 3,some 4] [] rfl (go ?_)
 refine atB ht4 (go ?_)
 refine okK_eq (okPut ht4 rfl) (go ?_)
 refine listK_eq (arr_put ht4 rfl (.p 3264 16 0 0)) (go ?_)
 refine wrB (by show -9223372036854775808 ≤ (y.nx : Int) + 1 ∧ (y.nx : Int) + 1 ≤ 9223372036854775807;omega) (go ?_)
 refine wrB (by show -9223372036854775808 ≤ y.opn + 1 ∧ y.opn + 1 ≤ 9223372036854775807;omega) (go ?_)
 refine atB ht4 (go ?_)
 refine optK_eq (arr_upd ht4 rfl _) (go ?_)
 refine atB ht4 (go ?_)
 refine optK_eq (arr_upd ht4 rfl _) (go ?_)
 refine callO a1 [some 3264,some 21,some 22,some 23,some 24,some 25,some 26,some 27,some 28,some 29,some 30,some 31,some 0,some 1,some 10,some 3,some 4] [] _ _ _ (iB0_at (ν:=fun x=>match x with | 0=>3264 | x=>20 + x) (IOp.new t x) y.s (by decide) rfl rfl rfl rfl rfl) (iB1_at (ν:=fun x=>match x with | 0=>3264 | x=>4288 + x) o1 s2 rfl (by decide) rfl rfl rfl rfl rfl) rfl rfl (go ?_)
 refine atB ht4 (go ?_)
 refine optK_eq (arr_upd ht4 rfl _) (go ?_)
 refine callO (iEffectC o1 s2) [some 3264,some 4289,some 4290,some 4291,some 4292,some 4293,some 4294,some 4295,some 4296,some 4297,some 4298,some 4299,some 0,some 1,some 4288,some 3,some 4] [] _ _ _ (iB0_at (ν:=fun x=>match x with | 0=>3264 | x=>4288 + x) o1 s2 (by decide) rfl rfl rfl rfl rfl) (iB0_at (ν:=fun x=>match x with | 0=>3264 | x=>4288 + x) o1 s2 (by decide) rfl rfl rfl rfl rfl) rfl rfl (go ?_)
 rcases Bool.eq_false_or_eq_true o1.eff with hef | hef
 · rw [hef]
   (refine go ?_; try exact True.intro)
   refine atB ht4 (go ?_)
   refine optK_eq (mine_at2 (upd_same ..) ht4 rfl) (go ?_)
   rcases Bool.eq_false_or_eq_true o1.done with hd | hd
   · rw [hd]
     (refine go ?_; try exact True.intro)
     refine atB ht4 (go ?_)
     refine optK_eq (mine_at2 (upd_same ..) ht4 rfl) (go ?_)
     refine atB ht4 (go ?_)
     refine optK_eq (arr_upd ht4 rfl _) (go ?_)
     refine dcallRO (iResultC o1 s2) [some 3264,some 4289,some 4290,some 4291,some 4292,some 4293,some 4294,some 4295,some 4296,some 4297,some 4298,some 4299,some 0,some 1,some 4288,some 3,some 4] _ _ (iB0_at (ν:=fun x=>match x with | 0=>3264 | x=>4288 + x) o1 s2 (by decide) rfl rfl rfl rfl rfl) rfl (go ?_)
     refine atB hmy (go ?_)
     refine getB hrm (go ?_)
     refine atB ht4 (go ?_)
     refine okK_eq (okPut ht4 rfl) (go ?_)
     refine listK_eq (arr_free2 ht4 rfl) (go ?_)
     refine wrB (by show -9223372036854775808 ≤ y.opn + 1 - 1 ∧ y.opn + 1 - 1 ≤ 9223372036854775807;omega) (go ?_)
     rw [hef,hd,left_done hd] at hgo
     refine loopO tab_ok mix [6] [0,1,2,8,9,10,11,12,13,14,15] [0,1,3,4,4288,6,7,8,4992] (fun m : Nat=>[(17,V.int m)]) (fun m=>[]) (fun m=>m ≤ 4) (fun m=>4 - m) [] 0 rfl (by omega) ?_ ?_
     · (refine go ?_; try exact True.intro)
       refine BO.mk _ rfl (renB_nil _).symm (arrP_below (k:=12) (upd y.cs t none) (by decide) (by decide) (by decide)) (go ?_);try exact True.intro
     intro m hm
     (refine go ?_; try exact True.intro)
     by_cases hm4 : m < 4
     · rw [decide_eq_true (show (m : Int) < 4 by omega)]
       (refine go ?_; try exact True.intro)
       refine callL (memoryC s2) [some 0,some 1,some 4288,some 3,some 4] [] rfl (go ?_)
       refine callL (hgo.holdC hm4) [some 1,some 4288,some 3,some 4] [] rfl (go ?_)
       rw [decide_eq_false (hgo.holder (upd_same ..) hm4)]
       (refine go ?_; try exact True.intro)
       refine .mk [] (m + 1) (by omega) (by omega) (go ?_)
       refine BO.mk _ rfl (renB_nil _).symm (arrP_below (k:=12) (upd y.cs t none) (by decide) (by decide) (by decide)) (go ?_);try exact True.intro
     rw [decide_eq_false (show ¬ (m : Int) < 4 by omega)]
     (refine go ?_; try exact True.intro)
     refine wrB (by show -9223372036854775808 ≤ (y.i : Int) + 1 ∧ (y.i : Int) + 1 ≤ 9223372036854775807;omega) (go ?_)
     refine .mk [(10,4288),(9,4992)] (⟨y.i + 1,y.nx + 1,y.opn + 1 - 1,s2,upd y.cs t none,upd y.mine t y.nx,y.res.set (upd y.mine t y.nx t) (o1.e,o1.h),y.ord ++ [upd y.mine t y.nx t],y.el ++ [(o1.e,o1.h)]⟩,t) [(20,.dat 1 []),(21,.dat 1 []),(22,.dat 1 []),(23,.dat 1 []),(24,.dat 1 []),(25,.dat 1 []),(26,.dat 1 []),(27,.dat 1 []),(28,.dat 1 []),(29,.dat 1 []),(30,.dat 1 []),(31,.dat 1 [])] hgo (by show rndsN times picks - (y.i + 1) < rndsN times picks - y.i;omega) (by unfold pwF;dsimp only;rw [famC_upd,ibc_none (upd_same ..)]) (go ?_)
     refine BO.mk _ rfl (arr_gone rfl (by decide)) (arrP_below _ (by decide) (by decide) (by decide)) (go ?_)
     refine BO.mk _ rfl (by rfl) (mineB_below _ _) (go ?_)
     refine BO.mk _ rfl (by rw [(re_done hd).1,(re_done hd).2];simp [List.map_set,resR,renB,upd_same]) trivial (go ?_)
     refine BO.mk _ rfl (by simp [natD,intD,renB,upd_same]) trivial (go ?_)
     iterate 12 (refine BO.no rfl trivial ?_;(refine go ?_; try exact True.intro))
   · rw [hd]
     (refine go ?_; try exact True.intro)
     rw [hef,hd,left_run hd] at hgo
     refine wrB (by show -9223372036854775808 ≤ (y.i : Int) + 1 ∧ (y.i : Int) + 1 ≤ 9223372036854775807;omega) (go ?_)
     refine .mk [(10,4288),(9,4992),(21,4289),(22,4290),(23,4291),(24,4292),(25,4293),(26,4294),(27,4295),(28,4296),(29,4297),(30,4298),(31,4299),(20,3264)] (⟨y.i + 1,y.nx + 1,y.opn + 1,s2,upd y.cs t (some o1),upd y.mine t y.nx,y.res,y.ord ++ [upd y.mine t y.nx t],y.el ++ [(o1.e,o1.h)]⟩,t) [(20,o1.blkB 0 (fun x=>20 + x) 0),(21,o1.blkB 0 (fun x=>20 + x) 1),(22,o1.blkB 0 (fun x=>20 + x) 2),(23,o1.blkB 0 (fun x=>20 + x) 3),(24,o1.blkB 0 (fun x=>20 + x) 4),(25,o1.blkB 0 (fun x=>20 + x) 5),(26,o1.blkB 0 (fun x=>20 + x) 6),(27,o1.blkB 0 (fun x=>20 + x) 7),(28,o1.blkB 0 (fun x=>20 + x) 8),(29,o1.blkB 0 (fun x=>20 + x) 9),(30,o1.blkB 0 (fun x=>20 + x) 10),(31,o1.blkB 0 (fun x=>20 + x) 11)] hgo (by show rndsN times picks - (y.i + 1) < rndsN times picks - y.i;omega) (by unfold pwF;dsimp only;rw [famC_upd,ibc_some (upd_same ..)]) (go ?_)
     refine BO.mk _ rfl (arr_made rfl (by decide) rfl) (arrP_below _ (by decide) (by decide) (by decide)) (go ?_)
     refine BO.mk _ rfl (by rfl) (mineB_below _ _) (go ?_)
     refine BO.mk _ rfl (by rfl) trivial (go ?_)
     refine BO.mk _ rfl (by simp [natD,intD,renB,upd_same]) trivial (go ?_)
     iterate 12 (refine boBlk (o:=o1) (st:=0) (ν:=fun x=>20 + x) (fun x=>match x with | 0=>3264 | x=>4288 + x) ?_ (by rfl) (by rfl) (by decide) (by decide) (by decide);(refine go ?_; try exact True.intro))
 · rw [hef]
   (refine go ?_; try exact True.intro)
   rcases Bool.eq_false_or_eq_true o1.done with hd | hd
   · rw [hd]
     (refine go ?_; try exact True.intro)
     refine atB ht4 (go ?_)
     refine optK_eq (mine_at2 (upd_same ..) ht4 rfl) (go ?_)
     refine atB ht4 (go ?_)
     refine optK_eq (arr_upd ht4 rfl _) (go ?_)
     refine dcallRO (iResultC o1 s2) [some 3264,some 4289,some 4290,some 4291,some 4292,some 4293,some 4294,some 4295,some 4296,some 4297,some 4298,some 4299,some 0,some 1,some 4288,some 3,some 4] _ _ (iB0_at (ν:=fun x=>match x with | 0=>3264 | x=>4288 + x) o1 s2 (by decide) rfl rfl rfl rfl rfl) rfl (go ?_)
     refine atB hmy (go ?_)
     refine getB hrm (go ?_)
     refine atB ht4 (go ?_)
     refine okK_eq (okPut ht4 rfl) (go ?_)
     refine listK_eq (arr_free2 ht4 rfl) (go ?_)
     refine wrB (by show -9223372036854775808 ≤ y.opn + 1 - 1 ∧ y.opn + 1 - 1 ≤ 9223372036854775807;omega) (go ?_)
     rw [hef,hd,left_done hd] at hgo
     refine loopO tab_ok mix [6] [0,1,2,8,9,10,11,12,13,14,15] [0,1,3,4,4288,6,7,8,9] (fun m : Nat=>[(17,V.int m)]) (fun m=>[]) (fun m=>m ≤ 4) (fun m=>4 - m) [] 0 rfl (by omega) ?_ ?_
     · (refine go ?_; try exact True.intro)
       refine BO.mk _ rfl (renB_nil _).symm (arrP_below (k:=12) (upd y.cs t none) (by decide) (by decide) (by decide)) (go ?_);try exact True.intro
     intro m hm
     (refine go ?_; try exact True.intro)
     by_cases hm4 : m < 4
     · rw [decide_eq_true (show (m : Int) < 4 by omega)]
       (refine go ?_; try exact True.intro)
       refine callL (memoryC s2) [some 0,some 1,some 4288,some 3,some 4] [] rfl (go ?_)
       refine callL (hgo.holdC hm4) [some 1,some 4288,some 3,some 4] [] rfl (go ?_)
       rw [decide_eq_false (hgo.holder (upd_same ..) hm4)]
       (refine go ?_; try exact True.intro)
       refine .mk [] (m + 1) (by omega) (by omega) (go ?_)
       refine BO.mk _ rfl (renB_nil _).symm (arrP_below (k:=12) (upd y.cs t none) (by decide) (by decide) (by decide)) (go ?_);try exact True.intro
     rw [decide_eq_false (show ¬ (m : Int) < 4 by omega)]
     (refine go ?_; try exact True.intro)
     refine wrB (by show -9223372036854775808 ≤ (y.i : Int) + 1 ∧ (y.i : Int) + 1 ≤ 9223372036854775807;omega) (go ?_)
     refine .mk [(10,4288)] (⟨y.i + 1,y.nx + 1,y.opn + 1 - 1,s2,upd y.cs t none,upd y.mine t y.nx,y.res.set (upd y.mine t y.nx t) (o1.e,o1.h),y.ord,y.el⟩,t) [(20,.dat 1 []),(21,.dat 1 []),(22,.dat 1 []),(23,.dat 1 []),(24,.dat 1 []),(25,.dat 1 []),(26,.dat 1 []),(27,.dat 1 []),(28,.dat 1 []),(29,.dat 1 []),(30,.dat 1 []),(31,.dat 1 [])] hgo (by show rndsN times picks - (y.i + 1) < rndsN times picks - y.i;omega) (by unfold pwF;dsimp only;rw [famC_upd,ibc_none (upd_same ..)]) (go ?_)
     refine BO.mk _ rfl (arr_gone rfl (by decide)) (arrP_below _ (by decide) (by decide) (by decide)) (go ?_)
     refine BO.mk _ rfl (by rfl) (mineB_below _ _) (go ?_)
     refine BO.mk _ rfl (by rw [(re_done hd).1,(re_done hd).2];simp [List.map_set,resR,renB,upd_same]) trivial (go ?_)
     refine BO.mk _ rfl (by rfl) trivial (go ?_)
     iterate 12 (refine BO.no rfl trivial ?_;(refine go ?_; try exact True.intro))
   · rw [hd]
     (refine go ?_; try exact True.intro)
     rw [hef,hd,left_run hd] at hgo
     refine wrB (by show -9223372036854775808 ≤ (y.i : Int) + 1 ∧ (y.i : Int) + 1 ≤ 9223372036854775807;omega) (go ?_)
     refine .mk [(10,4288),(21,4289),(22,4290),(23,4291),(24,4292),(25,4293),(26,4294),(27,4295),(28,4296),(29,4297),(30,4298),(31,4299),(20,3264)] (⟨y.i + 1,y.nx + 1,y.opn + 1,s2,upd y.cs t (some o1),upd y.mine t y.nx,y.res,y.ord,y.el⟩,t) [(20,o1.blkB 0 (fun x=>20 + x) 0),(21,o1.blkB 0 (fun x=>20 + x) 1),(22,o1.blkB 0 (fun x=>20 + x) 2),(23,o1.blkB 0 (fun x=>20 + x) 3),(24,o1.blkB 0 (fun x=>20 + x) 4),(25,o1.blkB 0 (fun x=>20 + x) 5),(26,o1.blkB 0 (fun x=>20 + x) 6),(27,o1.blkB 0 (fun x=>20 + x) 7),(28,o1.blkB 0 (fun x=>20 + x) 8),(29,o1.blkB 0 (fun x=>20 + x) 9),(30,o1.blkB 0 (fun x=>20 + x) 10),(31,o1.blkB 0 (fun x=>20 + x) 11)] hgo (by show rndsN times picks - (y.i + 1) < rndsN times picks - y.i;omega) (by unfold pwF;dsimp only;rw [famC_upd,ibc_some (upd_same ..)]) (go ?_)
     refine BO.mk _ rfl (arr_made rfl (by decide) rfl) (arrP_below _ (by decide) (by decide) (by decide)) (go ?_)
     refine BO.mk _ rfl (by rfl) (mineB_below _ _) (go ?_)
     refine BO.mk _ rfl (by rfl) trivial (go ?_)
     refine BO.mk _ rfl (by rfl) trivial (go ?_)
     iterate 12 (refine boBlk (o:=o1) (st:=0) (ν:=fun x=>20 + x) (fun x=>match x with | 0=>3264 | x=>4288 + x) ?_ (by rfl) (by rfl) (by decide) (by decide) (by decide);(refine go ?_; try exact True.intro))
end Go.Proofs.YtcffiehcdadimaaGreat.Abs
