/- Batches: the methods New, drop, take and scan. -/
import Derived.Test.YtdjnjchpgccbiaaGreatNA
import Derived.Test.YtdjnjchpgccbiaaGreatMA
import Derived.Test.YtdjnjchpgccbiaaGreatOA
import Derived.Test.YtdjnjchpgccbiaaGreatCA
namespace Go.Proofs.YtdjnjchpgccbiaaGreat.Abs
open Go.Proofs
set_option maxRecDepth 10000
set_option linter.unusedSimpArgs false
set_option linter.unusedVariables false
set_option maxHeartbeats 4000000
def bBx (o : BOp) (s : Sto) (r e l : Nat) : List (Nat × B):=[(0,ZpI o 3 r e),(r,Zq9 o),(e,evB o)] ++ ZY s 3 l
theorem Zt7 (s : Sto) (th : Int) (c : Cl) : LSpec Tryz.prog 27 [.p 0 10 0 0,V.int th,c.v] (ZE s 2) 5 (.p 5 22 0 0) (ZE s 2 ++ [(5,ZpI (.new th c) 0 6 7),(6,Zq9 (.new th c)),(7,evB (.new th c))]) 8:=by
 refine lspec tab_ok mix Tryz.func27 (by kernel_rfl) (by rfl) (by rfl) (by rfl) (by rfl) ?_
 (refine go ?_; try exact tt)
 exact .mk [(5,448)] (go tt)
theorem ZpH (o : BOp) (s s' : Sto) (hnf : o.nf = 0) (hrv : o.rv = false) (hl : o.rem.length < 1000) (hd : LSpec Tryz.prog 144 [.p 0 10 0 0,V.int o.th] (ZE s 2) 5 (.tup []) (ZE s' 5) 6) :
 LSpec Tryz.prog 160 [.p 0 22 0 0] (bBx o s 1 2 5) 8 (.tup []) (bBx { o with rem:=o.rem ++ [o.it.slot] } s' 8 2 9) 10:=by
 obtain ⟨th,c,held,scn,it,w,cl,rem,nf,ev,e,rv,eff,blk⟩:=o
 dsimp only at hnf hrv hl hd ⊢
 subst hnf hrv
 have hm : (rem.map QF).length = rem.length:=List.length_map ..
 refine lspec tab_ok mix Tryz.func160 (by kernel_rfl) (by rfl) (by rfl) (by rfl) (by rfl) ?_
 (refine go ?_; try exact tt)
 refine Zu hd [some 3,some 4,some 5,some 6,some 7] [] (go ?_)
 refine .mk [(8,1344),(9,576)] (go ?_);try exact tt
 repeat (refine cb (by simp [QF]) ?_;(refine go ?_; try exact tt))
theorem Zqe (o : BOp) (s : Sto) (m' : Mem) {i : Nat} (hi : o.it.slot = (i : Int)) (hi64 : i < 64) (hrv : o.rv = false) (hnf : o.nf = 0) (hw : 0 ≤ o.w ∧ o.w ≤ 4398046511104)
 (hc : LSpec Tryz.prog 145 [.p 0 4 0 0,V.int o.th,V.int ((i + 1 : Nat) : Int),V.int o.w,V.int (4 * (o.w / 4) + 2)] (Zaj s.m 1) 4 (V.bool false) (Zaj m' 4) 5) :
 LSpec Tryz.prog 87 [.p 0 22 0 0] (bBx o s 1 2 5) 8 (.tup []) (bBx { o with cl:=false } { s with m:=m' } 1 2 8) 9:=by
 obtain ⟨th,c,held,scn,it,w,cl,rem,nf,ev,e,rv,eff,blk⟩:=o
 dsimp only at hnf hrv hi hw hc ⊢
 subst hnf hrv
 refine lspec tab_ok mix Tryz.func87 (by kernel_rfl) (by rfl) (by rfl) (by rfl) (by rfl) ?_
 (refine go ?_; try exact tt)
 refine Zh (ZrX w) (go ?_)
 refine Yq (ZB s) [some 3,some 4,some 5,some 6,some 7] rfl rfl (go ?_)
 rw [hi]
 refine wrB (by omega) (go ?_)
 refine Zn (Zmg (w / 4) 2 ⟨⟨by omega,by omega⟩,by omega⟩) (go ?_)
 rw [show (1 + (i : Int)) = ((i + 1 : Nat) : Int) by omega]
 refine Zu hc [some 4,some 5,some 6,some 7] [] (go ?_)
 exact .mk [(8,2048)] (go tt)
theorem Zrz (o : BOp) (s : Sto) (m' : Mem) (s' : Sto) {i : Nat} (hi : o.it.slot = (i : Int)) (hi64 : i < 64) (hrv : o.rv = false) (hnf : o.nf = 0) (hw : 0 ≤ o.w ∧ o.w ≤ 4398046511104) (hl : o.rem.length < 1000) (hle : o.ev.length < 1000)
 (hc : LSpec Tryz.prog 145 [.p 0 4 0 0,V.int o.th,V.int ((i + 1 : Nat) : Int),V.int o.w,V.int (4 * (o.w / 4) + 2)] (Zaj s.m 1) 4 (V.bool true) (Zaj m' 4) 5)
 (hd : LSpec Tryz.prog 144 [.p 0 10 0 0,V.int o.th] (ZE { s with m:=m' } 2) 5 (.tup []) (ZE s' 5) 6) :
 LSpec Tryz.prog 87 [.p 0 22 0 0] (bBx o s 1 2 5) 8 (.tup []) (bBx { o with cl:=false,rem:=o.rem ++ [o.it.slot],ev:=o.ev ++ [(o.it.time,64 * (o.w / 4) + o.it.slot)] } s' 8 9 10) 11:=by
 have hdr:=ZpH { o with cl:=false } { s with m:=m' } s' hnf hrv hl hd
 obtain ⟨th,c,held,scn,it,w,cl,rem,nf,ev,e,rv,eff,blk⟩:=o
 dsimp only at hnf hrv hi hw hc hl hle hdr ⊢
 subst hnf hrv
 have hm : (ev.map evD).length = ev.length:=List.length_map ..
 refine lspec tab_ok mix Tryz.func87 (by kernel_rfl) (by rfl) (by rfl) (by rfl) (by rfl) ?_
 (refine go ?_; try exact tt)
 refine Zh (ZrX w) (go ?_)
 refine Yq (ZB s) [some 3,some 4,some 5,some 6,some 7] rfl rfl (go ?_)
 rw [hi]
 refine wrB (by omega) (go ?_)
 refine Zn (Zmg (w / 4) 2 ⟨⟨by omega,by omega⟩,by omega⟩) (go ?_)
 rw [show (1 + (i : Int)) = ((i + 1 : Nat) : Int) by omega]
 refine Zu hc [some 4,some 5,some 6,some 7] [] (go ?_)
 refine Za hdr [some 0,some 1,some 2,some 3,some 4,some 2048,some 6,some 7] [] rfl (go ?_)
 rw [hi]
 refine Zn (Ztl i (w / 4) ⟨⟨by omega,by omega⟩,by omega,by omega⟩) (go ?_)
 refine .mk [(8,2240),(9,3520),(10,2241)] (go ?_);try exact tt
 repeat (refine cb (by simp [QF,evD,hi]) ?_;(refine go ?_; try exact tt))
theorem Zof (o : BOp) (s s' : Sto) (it : Item) (ok : Bool) (hrv : o.rv = false) (hnf : o.nf = 0) (hle : o.ev.length < 1000) (hno : ¬ (ok = true ∧ it.time < o.c.b ∧ (o.ev.length : Int) ≠ o.c.m))
 (hp : LSpec Tryz.prog 143 [.p 0 10 0 0,V.int o.th] (ZE s 2) 5 (.tup [it.v,V.bool ok]) (ZE s' 5) 6) :
 LSpec Tryz.prog 88 [.p 0 22 0 0] (bBx o s 1 2 5) 8 (.tup []) (bBx { o with scn:=true,eff:=true } s' 1 2 8) 9:=by
 obtain ⟨th,c,held,scn,it0,w,cl,rem,nf,ev,e,rv,eff,blk⟩:=o
 dsimp only at hnf hrv hle hp hno ⊢
 subst hnf hrv
 have hm : (ev.map evD).length = ev.length:=List.length_map ..
 cases ok with
 | false=>
  refine lspec tab_ok mix Tryz.func88 (by kernel_rfl) (by rfl) (by rfl) (by rfl) (by rfl) ?_
  (refine go ?_; try exact tt)
  refine Zu hp [some 3,some 4,some 5,some 6,some 7] [] (go ?_)
  exact .mk [(8,576)] (go tt)
 | true=>
  by_cases h1 : c.b ≤ it.time
  · refine lspec tab_ok mix Tryz.func88 (by kernel_rfl) (by rfl) (by rfl) (by rfl) (by rfl) ?_
    (refine go ?_; try exact tt)
    refine Zu hp [some 3,some 4,some 5,some 6,some 7] [] (go ?_)
    rw [decide_eq_true h1]
    (refine go ?_; try exact tt)
    refine .mk [(8,576)] (go ?_);try exact tt
  · have h2 : (ev.length : Int) = c.m:=Classical.byContradiction fun z=>hno ⟨rfl,by omega,z⟩
    refine lspec tab_ok mix Tryz.func88 (by kernel_rfl) (by rfl) (by rfl) (by rfl) (by rfl) ?_
    (refine go ?_; try exact tt)
    refine Zu hp [some 3,some 4,some 5,some 6,some 7] [] (go ?_)
    rw [decide_eq_false h1]
    (refine go ?_; try exact tt)
    rw [decide_eq_true h2]
    (refine go ?_; try exact tt)
    exact .mk [(8,576)] (go tt)
theorem Zrk (o : BOp) (s s' : Sto) (m' : Mem) (it : Item) {i : Nat} {w : Int} (hi : it.slot = (i : Int)) (hi64 : i < 64) (hrv : o.rv = false) (hnf : o.nf = 0) (hle : o.ev.length < 1000) (hgo : it.time < o.c.b ∧ (o.ev.length : Int) ≠ o.c.m) (hw : 0 ≤ w ∧ w ≤ 2305843009213693952) (hw3 : w % 4 ≠ 3)
 (hp : LSpec Tryz.prog 143 [.p 0 10 0 0,V.int o.th] (ZE s 2) 5 (.tup [it.v,V.bool true]) (ZE s' 5) 6)
 (hld : LSpec Tryz.prog 162 [.p 0 4 0 0,V.int o.th,V.int ((i + 1 : Nat) : Int)] (Zaj s'.m 1) 4 (V.int w) (Zaj m' 4) 5) :
 LSpec Tryz.prog 88 [.p 0 22 0 0] (bBx o s 1 2 5) 8 (.tup []) (bBx { o with it:=it,w:=w,cl:=true } { s' with m:=m' } 1 2 8) 9:=by
 obtain ⟨th,c,held,scn,it0,w0,cl,rem,nf,ev,e,rv,eff,blk⟩:=o
 dsimp only at hnf hrv hle hp hld hgo hi ⊢
 subst hnf hrv
 have hm : (ev.map evD).length = ev.length:=List.length_map ..
 refine lspec tab_ok mix Tryz.func88 (by kernel_rfl) (by rfl) (by rfl) (by rfl) (by rfl) ?_
 (refine go ?_; try exact tt)
 refine Zu hp [some 3,some 4,some 5,some 6,some 7] [] (go ?_)
 rw [decide_eq_false (show ¬ c.b ≤ it.time by omega)]
 (refine go ?_; try exact tt)
 rw [decide_eq_false hgo.2]
 (refine go ?_; try exact tt)
 refine Yq (ZB s') [some 3,some 4,some 576,some 6,some 7] rfl rfl (go ?_)
 rw [hi]
 rw [show (1 + (i : Int)) = ((i + 1 : Nat) : Int) by omega]
 refine Zu hld [some 4,some 576,some 6,some 7] [] (go ?_)
 refine Zh (Zjc w hw) (go ?_)
 rw [decide_eq_false hw3]
 (refine go ?_; try exact tt)
 exact .mk [(8,3776)] (go tt)
theorem ZlV (o : BOp) (s s' s2 : Sto) (m' : Mem) (it : Item) {i : Nat} {w : Int} (hi : it.slot = (i : Int)) (hi64 : i < 64) (hrv : o.rv = false) (hnf : o.nf = 0) (hl : o.rem.length < 1000) (hle : o.ev.length < 1000) (hgo : it.time < o.c.b ∧ (o.ev.length : Int) ≠ o.c.m) (hw : 0 ≤ w ∧ w ≤ 2305843009213693952) (hw3 : w % 4 = 3)
 (hp : LSpec Tryz.prog 143 [.p 0 10 0 0,V.int o.th] (ZE s 2) 5 (.tup [it.v,V.bool true]) (ZE s' 5) 6)
 (hld : LSpec Tryz.prog 162 [.p 0 4 0 0,V.int o.th,V.int ((i + 1 : Nat) : Int)] (Zaj s'.m 1) 4 (V.int w) (Zaj m' 4) 5)
 (hd : LSpec Tryz.prog 144 [.p 0 10 0 0,V.int o.th] (ZE { s' with m:=m' } 2) 5 (.tup []) (ZE s2 5) 6) :
 LSpec Tryz.prog 88 [.p 0 22 0 0] (bBx o s 1 2 5) 8 (.tup []) (bBx { o with it:=it,w:=w,cl:=false,rem:=o.rem ++ [it.slot] } s2 8 2 9) 10:=by
 have hdr:=ZpH { o with it:=it,w:=w,cl:=false } { s' with m:=m' } s2 hnf hrv hl hd
 obtain ⟨th,c,held,scn,it0,w0,cl,rem,nf,ev,e,rv,eff,blk⟩:=o
 dsimp only at hnf hrv hle hp hld hgo hi hdr ⊢
 subst hnf hrv
 have hm : (ev.map evD).length = ev.length:=List.length_map ..
 refine lspec tab_ok mix Tryz.func88 (by kernel_rfl) (by rfl) (by rfl) (by rfl) (by rfl) ?_
 (refine go ?_; try exact tt)
 refine Zu hp [some 3,some 4,some 5,some 6,some 7] [] (go ?_)
 rw [decide_eq_false (show ¬ c.b ≤ it.time by omega)]
 (refine go ?_; try exact tt)
 rw [decide_eq_false hgo.2]
 (refine go ?_; try exact tt)
 refine Yq (ZB s') [some 3,some 4,some 576,some 6,some 7] rfl rfl (go ?_)
 rw [hi]
 rw [show (1 + (i : Int)) = ((i + 1 : Nat) : Int) by omega]
 refine Zu hld [some 4,some 576,some 6,some 7] [] (go ?_)
 refine Zh (Zjc w hw) (go ?_)
 rw [decide_eq_true hw3]
 (refine go ?_; try exact tt)
 refine Za hdr [some 0,some 1,some 2,some 3,some 4,some 3776,some 6,some 7] [] rfl (go ?_)
 refine .mk [(8,5056),(9,5057)] (go ?_);try exact tt
 repeat (refine cb (by simp [QF,evD,hi]) ?_;(refine go ?_; try exact tt))
abbrev ZaF (o : BOp) (s : Sto) (z : Bool) (o' : BOp) (s' : Sto) : Prop:=LSpec Tryz.prog 33 [.p 0 22 0 0] (bB0 o s) 8 (V.bool z) (bB1 o' s') 11
theorem YL : PSpec Tryz.prog 85 [] (.agg [V.int 0,V.int 1,V.int 2,V.int 3]):=by
 refine pspec tab_ok mix Tryz.func85 (by kernel_rfl) rfl rfl ?_
 (refine go ?_; try exact tt)
 exact .same rfl
theorem Zsw (o : BOp) (s : Sto) (hb : o.bad) (hrv : o.rv = false) (hnf : o.nf = 0) : ZaF o s true { o with e:=1,eff:=true,blk:=false } s:=by
 obtain ⟨th,c,held,scn,it,w,cl,rem,nf,ev,e,rv,eff,blk⟩:=o
 unfold BOp.bad at hb
 dsimp only at hnf hrv hb ⊢
 subst hnf hrv
 by_cases h1 : c.m < 0
 · refine lspec tab_ok mix Tryz.func33 (by kernel_rfl) (by rfl) (by rfl) (by rfl) (by rfl) ?_
   (refine go ?_; try exact tt)
   refine Zh YL (go ?_)
   rw [decide_eq_true h1]
   (refine go ?_; try exact tt)
   refine .mk [(8,1),(9,2),(10,5)] (go ?_);try exact tt
 · refine lspec tab_ok mix Tryz.func33 (by kernel_rfl) (by rfl) (by rfl) (by rfl) (by rfl) ?_
   (refine go ?_; try exact tt)
   refine Zh YL (go ?_)
   rw [decide_eq_false h1]
   (refine go ?_; try exact tt)
   rw [decide_eq_true (hb.resolve_left h1)]
   (refine go ?_; try exact tt)
   exact .mk [(8,1),(9,2),(10,5)] (go tt)
theorem Zq8 (o : BOp) (s : Sto) (m' : Mem) (z : Bool) (hb : ¬ o.bad) (hrv : o.rv = false) (hnf : o.nf = 0) (hsc : o.scn = false) (hh : o.held < 4)
 (hc : LSpec Tryz.prog 86 [.p 0 4 0 0,V.int o.th,V.int o.held] (Zaj s.m 1) 4 (V.bool z) (Zaj m' 4) 5) :
 ZaF o s false (if z = true then { o with held:=o.held + 1,eff:=false,blk:=false } else { o with eff:=false,blk:=true }) { s with m:=m' }:=by
 obtain ⟨th,c,held,scn,it,w,cl,rem,nf,ev,e,rv,eff,blk⟩:=o
 unfold BOp.bad at hb
 dsimp only at hnf hrv hb hsc hh hc ⊢
 subst hnf hrv hsc
 have h1 : ¬ c.m < 0:=fun x=>hb (.inl x)
 have h2 : ¬ 64 < c.m:=fun x=>hb (.inr x)
 rcases (show held = 0 ∨ held = 1 ∨ held = 2 ∨ held = 3 by omega) with rfl | rfl | rfl | rfl <;> cases z <;> (
  refine lspec tab_ok mix Tryz.func33 (by kernel_rfl) (by rfl) (by rfl) (by rfl) (by rfl) ?_
  (refine go ?_; try exact tt)
  refine Zh YL (go ?_)
  rw [decide_eq_false h1]
  (refine go ?_; try exact tt)
  rw [decide_eq_false h2]
  (refine go ?_; try exact tt)
  refine Yq (ZB s) [some 3,some 4,some 5,some 6,some 7] rfl rfl (go ?_)
  refine atB (by dsimp only;omega) (go ?_)
  refine Zu hc [some 4,some 5,some 6,some 7] [] (go ?_)
  (try (refine wrB (by dsimp only;omega) ?_;(refine go ?_; try exact tt)))
  refine .mk [(8,1),(9,2),(10,3648)] ?_
  (refine go ?_; try exact tt))
abbrev BOp.c0 (o : BOp) : BOp:={ o with eff:=false,blk:=false }
theorem Zll (o o' : BOp) (s s' : Sto) (hb : ¬ o.bad) (hrv : o.rv = false) (hnf : o.nf = 0) (hh : o.held = 4) (hcl : o.cl = true) (hsc : o.scn = false) (hn' : o'.nf = 0) (hr' : o'.rv = false)
 (hc : LSpec Tryz.prog 87 [.p 0 22 0 0] (bBx o.c0 s 1 2 5) 8 (.tup []) (bBx o' s' 1 2 8) 9) : ZaF o s false o' s':=by
 obtain ⟨th,c,held,scn,it,w,cl,rem,nf,ev,e,rv,eff,blk⟩:=o
 obtain ⟨th',c',held',scn',it',w',cl',rem',nf',ev',e',rv',eff',blk'⟩:=o'
 unfold BOp.bad at hb
 dsimp only [BOp.c0] at hnf hrv hb hsc hh hcl hc hn' hr' ⊢
 subst hnf hrv hsc hcl hh hn' hr'
 have h1 : ¬ c.m < 0:=fun x=>hb (.inl x)
 have h2 : ¬ 64 < c.m:=fun x=>hb (.inr x)
 refine lspec tab_ok mix Tryz.func33 (by kernel_rfl) (by rfl) (by rfl) (by rfl) (by rfl) ?_
 (refine go ?_; try exact tt)
 refine Zh YL (go ?_)
 rw [decide_eq_false h1]
 (refine go ?_; try exact tt)
 rw [decide_eq_false h2]
 (refine go ?_; try exact tt)
 refine Za hc [some 0,some 1,some 2,some 3,some 4,some 5,some 6,some 7] [] rfl (go ?_)
 exact .mk [(8,1),(9,2),(10,3008)] (go tt)
theorem ZlR (o o' : BOp) (s s' : Sto) (hb : ¬ o.bad) (hrv : o.rv = false) (hnf : o.nf = 0) (hh : o.held = 4) (hcl : o.cl = true) (hsc : o.scn = false) (hn' : o'.nf = 0) (hr' : o'.rv = false)
 (hc : LSpec Tryz.prog 87 [.p 0 22 0 0] (bBx o.c0 s 1 2 5) 8 (.tup []) (bBx o' s' 8 9 10) 11) : ZaF o s false o' s':=by
 obtain ⟨th,c,held,scn,it,w,cl,rem,nf,ev,e,rv,eff,blk⟩:=o
 obtain ⟨th',c',held',scn',it',w',cl',rem',nf',ev',e',rv',eff',blk'⟩:=o'
 unfold BOp.bad at hb
 dsimp only [BOp.c0] at hnf hrv hb hsc hh hcl hc hn' hr' ⊢
 subst hnf hrv hsc hcl hh hn' hr'
 have h1 : ¬ c.m < 0:=fun x=>hb (.inl x)
 have h2 : ¬ 64 < c.m:=fun x=>hb (.inr x)
 refine lspec tab_ok mix Tryz.func33 (by kernel_rfl) (by rfl) (by rfl) (by rfl) (by rfl) ?_
 (refine go ?_; try exact tt)
 refine Zh YL (go ?_)
 rw [decide_eq_false h1]
 (refine go ?_; try exact tt)
 rw [decide_eq_false h2]
 (refine go ?_; try exact tt)
 refine Za hc [some 0,some 1,some 2,some 3,some 4,some 5,some 6,some 7] [] rfl (go ?_)
 exact .mk [(8,3008),(9,3009),(10,3010)] (go tt)
theorem Znk (o o' : BOp) (s s' : Sto) (hb : ¬ o.bad) (hrv : o.rv = false) (hnf : o.nf = 0) (hh : o.held = 4) (hcl : o.cl = false) (hsc : o.scn = false) (hn' : o'.nf = 0) (hr' : o'.rv = false)
 (hc : LSpec Tryz.prog 88 [.p 0 22 0 0] (bBx o.c0 s 1 2 5) 8 (.tup []) (bBx o' s' 1 2 8) 9) : ZaF o s false o' s':=by
 obtain ⟨th,c,held,scn,it,w,cl,rem,nf,ev,e,rv,eff,blk⟩:=o
 obtain ⟨th',c',held',scn',it',w',cl',rem',nf',ev',e',rv',eff',blk'⟩:=o'
 unfold BOp.bad at hb
 dsimp only [BOp.c0] at hnf hrv hb hsc hh hcl hc hn' hr' ⊢
 subst hnf hrv hsc hcl hh hn' hr'
 have h1 : ¬ c.m < 0:=fun x=>hb (.inl x)
 have h2 : ¬ 64 < c.m:=fun x=>hb (.inr x)
 refine lspec tab_ok mix Tryz.func33 (by kernel_rfl) (by rfl) (by rfl) (by rfl) (by rfl) ?_
 (refine go ?_; try exact tt)
 refine Zh YL (go ?_)
 rw [decide_eq_false h1]
 (refine go ?_; try exact tt)
 rw [decide_eq_false h2]
 (refine go ?_; try exact tt)
 refine Za hc [some 0,some 1,some 2,some 3,some 4,some 5,some 6,some 7] [] rfl (go ?_)
 exact .mk [(8,1),(9,2),(10,3392)] (go tt)
theorem ZhI (o o' : BOp) (s s' : Sto) (hb : ¬ o.bad) (hrv : o.rv = false) (hnf : o.nf = 0) (hh : o.held = 4) (hcl : o.cl = false) (hsc : o.scn = false) (hn' : o'.nf = 0) (hr' : o'.rv = false)
 (hc : LSpec Tryz.prog 88 [.p 0 22 0 0] (bBx o.c0 s 1 2 5) 8 (.tup []) (bBx o' s' 8 2 9) 10) : ZaF o s false o' s':=by
 obtain ⟨th,c,held,scn,it,w,cl,rem,nf,ev,e,rv,eff,blk⟩:=o
 obtain ⟨th',c',held',scn',it',w',cl',rem',nf',ev',e',rv',eff',blk'⟩:=o'
 unfold BOp.bad at hb
 dsimp only [BOp.c0] at hnf hrv hb hsc hh hcl hc hn' hr' ⊢
 subst hnf hrv hsc hcl hh hn' hr'
 have h1 : ¬ c.m < 0:=fun x=>hb (.inl x)
 have h2 : ¬ 64 < c.m:=fun x=>hb (.inr x)
 refine lspec tab_ok mix Tryz.func33 (by kernel_rfl) (by rfl) (by rfl) (by rfl) (by rfl) ?_
 (refine go ?_; try exact tt)
 refine Zh YL (go ?_)
 rw [decide_eq_false h1]
 (refine go ?_; try exact tt)
 rw [decide_eq_false h2]
 (refine go ?_; try exact tt)
 refine Za hc [some 0,some 1,some 2,some 3,some 4,some 5,some 6,some 7] [] rfl (go ?_)
 exact .mk [(8,3392),(9,2),(10,3393)] (go tt)
theorem Zrj (o : BOp) (s s' : Sto) {i : Nat} (hb : ¬ o.bad) (hrv : o.rv = false) (hcl : o.cl = false) (hsc : o.scn = true) (hg : o.rem[o.nf]? = some (i : Int))
 (hf : LSpec Tryz.prog 89 [.p 0 10 0 0,V.int o.th,V.int i] (ZE s 2) 5 (.tup []) (ZE s' 5) 6) : ZaF o s false { o with nf:=o.nf + 1,eff:=false,blk:=false } s':=by
 obtain ⟨th,c,held,scn,it,w,cl,rem,nf,ev,e,rv,eff,blk⟩:=o
 unfold BOp.bad at hb
 dsimp only at hrv hb hsc hcl hg hf ⊢
 subst hrv hsc hcl
 have hlt : nf < rem.length:=(List.getElem?_eq_some_iff.1 hg).1
 have h1 : ¬ c.m < 0:=fun x=>hb (.inl x)
 have h2 : ¬ 64 < c.m:=fun x=>hb (.inr x)
 cases nf with
 | zero=>
  refine lspec tab_ok mix Tryz.func33 (by kernel_rfl) (by rfl) (by rfl) (by rfl) (by rfl) ?_
  (refine go ?_; try exact tt)
  refine Zh YL (go ?_)
  rw [decide_eq_false h1]
  (refine go ?_; try exact tt)
  rw [decide_eq_false h2]
  (refine go ?_; try exact tt)
  rw [decide_eq_true (show (0 : Int) < rem.length by omega)]
  (refine go ?_; try exact tt)
  refine atB hlt (go ?_)
  refine Yy hg (go ?_)
  refine Zu hf [some 3,some 4,some 5,some 6,some 7] [] (go ?_)
  refine slB 1 rem.length (by rfl) (by rfl) ⟨by omega,Nat.le_refl _⟩ (go ?_)
  exact .mk [(8,1),(9,2),(10,4672)] (go tt)
 | succ k=>
  refine lspec tab_ok mix Tryz.func33 (by kernel_rfl) (by rfl) (by rfl) (by rfl) (by rfl) ?_
  (refine go ?_; try exact tt)
  refine Zh YL (go ?_)
  rw [decide_eq_false h1]
  (refine go ?_; try exact tt)
  rw [decide_eq_false h2]
  (refine go ?_; try exact tt)
  rw [decide_eq_true (show (0 : Int) < ((rem.length - (k + 1) : Nat) : Int) by omega)]
  (refine go ?_; try exact tt)
  refine atB (show 0 < rem.length - (k + 1) by omega) (go ?_)
  refine Yy hg (go ?_)
  refine Zu hf [some 3,some 4,some 5,some 6,some 7] [] (go ?_)
  refine slB 1 (rem.length - (k + 1)) (by rfl) (by rfl) ⟨by omega,Nat.le_refl _⟩ (go ?_)
  exact .mk [(8,1),(9,2),(10,4672)] (go tt)
theorem ZrY (o : BOp) (s : Sto) (m' : Mem) (z : Bool) (hb : ¬ o.bad) (hrv : o.rv = false) (hcl : o.cl = false) (hsc : o.scn = true) (hnf : o.rem.length ≤ o.nf) (hh : 1 ≤ o.held ∧ o.held ≤ 4)
 (hc : LSpec Tryz.prog 70 [.p 0 4 0 0,V.int o.th,V.int ((o.held - 1 : Nat) : Int)] (Zaj s.m 1) 4 (V.bool z) (Zaj m' 4) 5) :
 ZaF o s (decide (o.held = 1)) { o with held:=o.held - 1,rv:=decide (o.held = 1),eff:=false,blk:=false } { s with m:=m' }:=by
 obtain ⟨th,c,held,scn,it,w,cl,rem,nf,ev,e,rv,eff,blk⟩:=o
 unfold BOp.bad at hb
 dsimp only at hrv hb hsc hcl hnf hh hc ⊢
 subst hrv hsc hcl
 have h1 : ¬ c.m < 0:=fun x=>hb (.inl x)
 have h2 : ¬ 64 < c.m:=fun x=>hb (.inr x)
 have hl0 : nf = 0 → rem = []:=fun y=>List.eq_nil_of_length_eq_zero (by omega)
 rcases nf with _ | k
 · have hr:=hl0 rfl
   subst hr
   rcases (show held = 1 ∨ held = 2 ∨ held = 3 ∨ held = 4 by omega) with rfl | rfl | rfl | rfl <;> (
   refine lspec tab_ok mix Tryz.func33 (by kernel_rfl) (by rfl) (by rfl) (by rfl) (by rfl) ?_
   (refine go ?_; try exact tt)
   refine Zh YL (go ?_)
   rw [decide_eq_false h1]
   (refine go ?_; try exact tt)
   rw [decide_eq_false h2]
   (refine go ?_; try exact tt)
   refine wrB (by dsimp only;omega) (go ?_)
   refine Yq (ZB s) [some 3,some 4,some 5,some 6,some 7] rfl rfl (go ?_)
   refine atB (by dsimp only;omega) (go ?_)
   refine Zu hc [some 4,some 5,some 6,some 7] [] (go ?_)
   refine .mk [(8,1),(9,2),(10,5248)] ?_
   (refine go ?_; try exact tt))
 · rcases (show held = 1 ∨ held = 2 ∨ held = 3 ∨ held = 4 by omega) with rfl | rfl | rfl | rfl <;> (
   refine lspec tab_ok mix Tryz.func33 (by kernel_rfl) (by rfl) (by rfl) (by rfl) (by rfl) ?_
   (refine go ?_; try exact tt)
   refine Zh YL (go ?_)
   rw [decide_eq_false h1]
   (refine go ?_; try exact tt)
   rw [decide_eq_false h2]
   (refine go ?_; try exact tt)
   rw [decide_eq_false (show ¬ (0 : Int) < ((rem.length - (k + 1) : Nat) : Int) by omega)]
   (refine go ?_; try exact tt)
   refine wrB (by dsimp only;omega) (go ?_)
   refine Yq (ZB s) [some 3,some 4,some 5,some 6,some 7] rfl rfl (go ?_)
   refine atB (by dsimp only;omega) (go ?_)
   refine Zu hc [some 4,some 5,some 6,some 7] [] (go ?_)
   refine .mk [(8,1),(9,2),(10,5248)] ?_
   (refine go ?_; try exact tt))
set_option maxHeartbeats 1000000
theorem Zmy {n : Nat} {s : Sto} {S : List Item} {A : Nat → Prop} {o : BOp} (ho : BOk n s S A o) (h0 : o.nf = 0) : o.rem.length ≤ n:=by
 have hnd:=ho.nd
 rw [h0,List.drop_zero] at hnd
 have h1 : (o.rem.map Int.toNat).Nodup:=Yk hnd fun a ha b hb e=>by
  obtain ⟨i,hi⟩:=List.mem_iff_getElem?.1 ha
  obtain ⟨j,hj⟩:=List.mem_iff_getElem?.1 hb
  obtain ⟨a',_,rfl⟩:=ho.int i a hi
  obtain ⟨b',_,rfl⟩:=ho.int j b hj
  omega
 have:=YF n _ h1 fun x hx=>by
  obtain ⟨a,ha,rfl⟩:=List.mem_map.1 hx
  obtain ⟨i,hi⟩:=List.mem_iff_getElem?.1 ha
  obtain ⟨a',ha',rfl⟩:=ho.int i a hi
  omega
 rwa [List.length_map] at this
theorem Zss {n K : Nat} {s : Sto} {S : List Item} {A : Nat → Prop} (h : SB n s S A K) (hK : K + 1 ≤ 20000) (ht : s.m.Thr) {o : BOp} (ho : KBat n s S A o) : ZaF o s (o.step s).1.done (o.step s).1 (o.step s).2:=by
 obtain ⟨r1,r2⟩:=ho.ok.res
 have hn12:=h.n12
 have hm4 : 4 ≤ s.m.mtx.length:=by rw [h.nm];exact Nat.le_refl _
 have hdn : ∀ p : BOp,p.rv = o.rv → p.e = o.e → p.done = false:=fun p e1 e2=>by unfold BOp.done;rw [e1,e2,r1,r2];rfl
 have hevl:=ho.evl
 have fin : ∀ (p : BOp) (s1 : Sto),p.rv = o.rv → p.e = o.e → ZaF o s false p s1 → ZaF o s p.done p s1:=fun p s1 e1 e2 hh=>by rw [hdn p e1 e2];exact hh
 by_cases hb : o.bad
 · have e : o.step s = ({ o with e:=1,eff:=true,blk:=false },s):=by unfold BOp.step;rw [if_pos hb]
   have hnf:=(ho.ok.early (ho.bd hb).2.1).1
   rw [e]
   have : (BOp.done { o with e:=1,eff:=true,blk:=false }) = true:=by unfold BOp.done;simp
   rw [this]
   exact Zsw o s hb r1 hnf
 by_cases c1 : o.scn = false ∧ o.held < 4
 · have e : o.step s = o.lock s:=by unfold BOp.step;rw [if_neg hb,if_pos c1]
   have hl:=Zq8 o s _ _ hb r1 (ho.ok.early c1.1).1 c1.1 c1.2 (Zmw s.m o.th o.held (by omega) h.fits.mem)
   rw [e]
   have hd : (o.lock s).1.done = false:=by unfold BOp.lock;dsimp only;split <;> exact hdn _ rfl rfl
   rw [hd]
   exact hl
 by_cases c2 : o.cl = true
 · obtain ⟨hsc,hh4⟩:=ho.all c2
   obtain ⟨T,rfl⟩:=ho.ok.clm c2
   have e : o.step s = o.take s:=by unfold BOp.step;rw [if_neg hb,if_neg c1,if_pos c2]
   obtain ⟨i,hi,hx,hl,hA⟩:=h.itm o.it List.mem_cons_self
   have hsl : o.it.slot = (i : Int):=by rw [hx];rfl
   have htn : o.it.slot.toNat = i:=by omega
   have hwl : i + 1 < s.m.words.length:=by rw [h.nw];omega
   have hnf:=(ho.ok.early hsc).1
   have hrl:=Zmy ho.ok hnf
   have hlog:=h.log
   have hvi:=h.viol
   have hcas:=Zuj s.m o.th (i + 1) o.w (4 * (o.w / 4) + 2) hwl h.fits.mem
   rw [e]
   unfold BOp.take
   rw [htn]
   by_cases hw : s.m.word (i + 1) = o.w
   · have hc2 : s.m.cas o.th (i + 1) o.w (4 * (o.w / 4) + 2) = (s.m.put o.th 3 (i + 1) (4 * (o.w / 4) + 2) true,true):=by unfold Mem.cas;rw [if_pos hw]
     rw [hc2,decide_eq_true hw] at hcas
     rw [hc2,if_pos rfl]
     dsimp only at hcas ⊢
     have hgn : 4 * (o.w / 4) + 2 = 4 * s.gn i + 2:=by unfold Sto.gn;rw [hw]
     have hwd:=h.wd i hi
     have hkb:=h.kb
     have hm:=h.toSOk.mark hi hl o.th 3 true (v:=4 * (o.w / 4) + 2) (by rw [hgn];omega) (by omega)
     have hsb : SB n { s with m:=s.m.put o.th 3 (i + 1) (4 * (o.w / 4) + 2) true } (o.it :: T) A (K + 1):=⟨hm.mono (by omega) hK,by simp [Mem.put];omega,by show 0 ≤ s.m.viol ∧ s.m.viol ≤ _;push_cast;omega⟩
     have hthr : (s.m.put o.th 3 (i + 1) (4 * (o.w / 4) + 2) true).Thr:=Yd (m:=s.m) ht rfl
     have hd:=(hsb.drop2 hthr o.th ho.ok.th0).1
     have hwb : 0 ≤ o.w ∧ o.w ≤ 4398046511104:=by rw [← hw];unfold Sto.gn at hwd;omega
     have htk:=Zrz o.c0 s _ _ hsl (by omega) r1 hnf hwb (by show o.rem.length < 1000;omega) (by show o.ev.length < 1000;omega) hcas hd
     exact fin _ _ rfl rfl (ZlR o _ s _ hb r1 hnf hh4 c2 hsc hnf r1 htk)
   · have hc2 : s.m.cas o.th (i + 1) o.w (4 * (o.w / 4) + 2) = (s.m.put o.th 3 (i + 1) (s.m.word (i + 1)) false,false):=by unfold Mem.cas;rw [if_neg hw]
     rw [hc2,decide_eq_false hw] at hcas
     rw [hc2,if_neg Bool.false_ne_true]
     dsimp only at hcas ⊢
     have hwb:=ho.wb
     exact fin _ _ rfl rfl (Zll o _ s _ hb r1 hnf hh4 c2 hsc hnf r1 (Zqe o.c0 s _ hsl (by omega) r1 hnf ⟨hwb.1,by have:=hwb.2;show o.w ≤ _;omega⟩ hcas))
 have hcl : o.cl = false:=by simpa using c2
 by_cases c3 : o.scn = false
 · have hh4 : o.held = 4:=by have : ¬ o.held < 4:=fun z=>c1 ⟨c3,z⟩;have:=ho.ok.held;omega
   have e : o.step s = o.scan s:=by unfold BOp.step;rw [if_neg hb,if_neg c1,if_neg c2,if_pos c3]
   have hnf:=(ho.ok.early c3).1
   have hrl:=Zmy ho.ok hnf
   obtain ⟨p1,p2⟩:=h.toSOk.peekS
   have k1:=h.toSOk.peek o.th
   have hp:=(h.peek2 ht o.th ho.ok.th0).1
   rw [e]
   unfold BOp.scan
   rw [p1,p2]
   by_cases c4 : decide (S ≠ []) = true ∧ (Q8 S).time < o.c.b ∧ (o.ev.length : Int) ≠ o.c.m
   · rw [if_pos c4]
     obtain ⟨x,T,rfl⟩ : ∃ x T,S = x :: T:=by
      cases S with
      | nil=>simp at c4
      | cons x T=>exact ⟨x,T,rfl⟩
     rw [c4.1] at hp
     rw [show Q8 (x :: T) = x from rfl] at hp c4 ⊢
     obtain ⟨i,hi,hx,hl,hA⟩:=h.itm x List.mem_cons_self
     have hsl : x.slot = (i : Int):=by rw [hx];rfl
     have htn : x.slot.toNat = i:=by omega
     rw [htn]
     have hlook : s.lookF o.th = { s.peekF o.th with m:=(s.peekF o.th).m.load o.th (i + 1) }:=by unfold Sto.lookF;rw [p1,show Q8 (x :: T) = x from rfl,htn]
     obtain ⟨s1,s2⟩:=h.takeF hK ht (th:=o.th) (q:=ZH s.q) k1
     have hwl : i + 1 < (s.peekF o.th).m.words.length:=by have:=k1.nw;show i + 1 < (s.take o.th (ZH s.q)).m.words.length;omega
     have hld:=ZpV (s.peekF o.th).m o.th (i + 1) hwl s1.fits.mem
     have hwb:=h.wbd i
     have ew : (s.peekF o.th).m.word (i + 1) = s.m.word (i + 1):=Zag (by rw [h.nw];omega) i
     rw [ew] at hld ⊢
     by_cases c5 : s.m.word (i + 1) % 4 = 3
     · rw [if_pos c5]
       dsimp only
       have hws : ((s.peekF o.th).m.load o.th (i + 1)).words = (s.peekF o.th).m.words:=ZV _ _ _ _ _ hwl
       have k2 : SOk n (s.lookF o.th) (x :: T) A (K + 1):=by rw [hlook];exact SOk.same s1.toSOk hws s1.nm
       obtain ⟨t1,t2,t3,t4⟩:=Zbg (s:=s) (th:=o.th) (q:=ZH s.q)
       have hlog:=h.log
       have hvi:=h.viol
       have l2 : (s.lookF o.th).m.log.length = (s.peekF o.th).m.log.length + 1:=by rw [hlook];simp [Mem.load,Mem.put]
       have v2 : (s.lookF o.th).m.viol = (s.peekF o.th).m.viol:=by rw [hlook];rfl
       have e1 : (s.peekF o.th).m.log.length ≤ s.m.log.length + 1:=t2
       have e2 : s.m.viol ≤ (s.peekF o.th).m.viol:=t3
       have e3 : (s.peekF o.th).m.viol ≤ s.m.viol + 3:=t4
       have hsb : SB n (s.lookF o.th) (x :: T) A (K + 1):=⟨k2,by omega,by push_cast;omega⟩
       have hthr : (s.lookF o.th).m.Thr:=by rw [hlook];exact Yd s2 rfl
       have hd:=(hsb.drop2 hthr o.th ho.ok.th0).1
       rw [hlook] at hd ⊢
       exact fin _ _ rfl rfl (ZhI o _ s _ hb r1 hnf hh4 hcl c3 hnf r1 (ZlV o.c0 s _ _ _ x hsl (by omega) r1 hnf (by show o.rem.length < 1000;omega) (by show o.ev.length < 1000;omega) c4.2 (by omega) c5 hp hld hd))
     · rw [if_neg c5]
       dsimp only
       rw [hlook]
       exact fin _ _ rfl rfl (Znk o _ s _ hb r1 hnf hh4 hcl c3 hnf r1 (Zrk o.c0 s _ _ x hsl (by omega) r1 hnf (by show o.ev.length < 1000;omega) c4.2 (by omega) c5 hp hld))
   · rw [if_neg c4]
     exact fin _ _ rfl rfl (Znk o _ s _ hb r1 hnf hh4 hcl c3 hnf r1 (Zof o.c0 s _ (Q8 S) _ r1 hnf (by show o.ev.length < 1000;omega) c4 hp))
 have hscn : o.scn = true:=by simpa using c3
 by_cases c4 : o.nf < o.rem.length
 · have e : o.step s = o.free s:=by unfold BOp.step;rw [if_neg hb,if_neg c1,if_neg c2,if_neg c3,if_pos c4]
   have hg:=List.getElem?_eq_getElem c4
   generalize o.rem[o.nf] = x at hg
   obtain ⟨i,hi,rfl⟩:=ho.ok.int o.nf x hg
   have hgd : (o.rem.getD o.nf 0).toNat = i:=by rw [List.getD_eq_getElem?_getD,hg];show ((i : Int)).toNat = i;omega
   have hf:=(h.free2 ht o.th ho.ok.th0 hi).1
   rw [e]
   unfold BOp.free
   rw [hgd]
   exact fin _ _ rfl rfl (Zrj o s _ hb r1 hcl hscn hg hf)
 · have e : o.step s = o.unlock s:=by unfold BOp.step;rw [if_neg hb,if_neg c1,if_neg c2,if_neg c3,if_neg c4]
   have hl1:=(ho.ok.late hscn).2
   have hl4:=ho.ok.held
   rw [e]
   unfold BOp.unlock
   have hd : (BOp.done { o with held:=o.held - 1,rv:=decide (o.held = 1),eff:=false,blk:=false }) = decide (o.held = 1):=by unfold BOp.done;dsimp only;rw [r2];simp
   dsimp only at hd ⊢
   rw [hd]
   exact ZrY o s _ _ hb r1 hcl hscn (by omega) ⟨hl1,hl4⟩ (Zd1 s.m o.th (o.held - 1) (by omega) h.fits.mem)
end Go.Proofs.YtdjnjchpgccbiaaGreat.Abs
