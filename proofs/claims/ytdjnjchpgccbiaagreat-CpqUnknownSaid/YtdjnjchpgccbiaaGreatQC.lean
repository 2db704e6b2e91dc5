/- law15: the fixed example. -/
import Derived.Test.YtdjnjchpgccbiaaGreatQB
import Derived.Test.YtdjnjchpgccbiaaGreatND
import Derived.Test.YtdjnjchpgccbiaaGreatHB
namespace Go.Proofs.YtdjnjchpgccbiaaGreat.Abs
open Go.Proofs
set_option maxRecDepth 10000
set_option linter.unusedSimpArgs false
set_option linter.unusedVariables false
def hs (s : Sto) (c : Cl) (e : Nat) : Sto:=(Yc (.new 0 c) s e).2
def ho (s : Sto) (c : Cl) (e : Nat) : Kop:=(Yc (.new 0 c) s e).1
def c1 : Cl:=⟨1,5,0,0,0⟩
def c2 : Cl:=⟨1,3,0,0,0⟩
def c4 : Cl:=⟨2,0,1,0,0⟩
def c6 : Cl:=⟨3,0,0,2,9⟩
def c7 : Cl:=⟨7,0,0,0,0⟩
def c8 : Cl:=⟨3,0,0,2,0⟩
abbrev DoC (c : Cl) (s s' : Sto) (r : V) : Prop:=LSpec Tryz.prog 62 [.p 0 10 0 0,V.int 0,c.v] (ZE s 2) 5 r (ZE s' 5) 6
def rF (e h : Int) (x : Bool) : V:=.agg [V.int e,V.int h,V.bool x,.c (.slice none 0 0)]
set_option maxHeartbeats 8000000 in
theorem Zks (s0 s1 s2 s3 s4 s5 s6 s7 s8 : Sto) (o8 : Kop) (h0 : LSpec Tryz.prog 60 [V.int 2] [] 0 (.p 0 10 0 0) (ZE s0 2) 5) (d1 : DoC c1 s0 s1 (rF 0 0 false)) (d2 : DoC c2 s1 s2 (rF 0 1 false)) (d3 : DoC c2 s2 s3 (rF 10 0 false)) (d4 : DoC c4 s3 s4 (rF 0 0 true)) (d5 : DoC c4 s4 s5 (rF 0 0 false))
 (d6 : LSpec Tryz.prog 62 [.p 0 10 0 0,V.int 0,c6.v] (ZE s5 2) 5 (.agg [V.int 0,V.int 0,V.bool false,.ac 6 2 1]) (ZE s6 5 ++ [(6,.dat 2 [[.c (.int .i64 5),.c (.int .i64 0)]])]) 7) (d7 : DoC c7 s6 s7 (rF 1 0 false)) (h8 : Zb6 (.new 0 c8) 0 s7 false o8 s8) (he : o8.eff = false) :
 PSpec Tryz.prog 12 [] (V.bool true):=by
 refine pspec tab_ok mix Tryz.func12 (by kernel_rfl) rfl rfl ?_
 (refine go ?_; try exact tt)
 refine Za h0 [] [] rfl (go ?_)
 refine Za d1 [some 64,some 65,some 66,some 67,some 68] [] rfl (go ?_)
 refine Za d2 [some 64,some 65,some 448,some 67,some 68] [] rfl (go ?_)
 refine Za d3 [some 64,some 65,some 768,some 67,some 68] [] rfl (go ?_)
 refine Za d4 [some 64,some 65,some 1088,some 67,some 68] [] rfl (go ?_)
 refine Za d5 [some 64,some 65,some 1536,some 67,some 68] [] rfl (go ?_)
 refine Za d6 [some 64,some 65,some 1984,some 67,some 68] [] rfl (go ?_)
 refine Za d7 [some 64,some 65,some 2304,some 67,some 68] [] rfl (go ?_)
 refine Qd (Zl5 s7 0 c8) [some 64,some 65,some 2624,some 67,some 68] [] _ _ (.p 2944 2 0 0) rfl (Zgy (ν:=fun x=>2944 + x) (.new 0 c8) s7 (by decide) rfl rfl rfl rfl rfl) rfl rfl (go ?_)
 refine Qd h8 [some 2944,some 2945,some 2946,some 2947,some 2948,some 2949,some 2950,some 2951,some 2952,some 2953,some 2954,some 2955,some 2956,some 64,some 65,some 2624,some 67,some 68] [] _ _ _ (ZL (ν:=fun x=>2944 + x) (.new 0 c8) 0 s7 (by decide) rfl rfl rfl rfl rfl) (Zg1 (ν:=muF 2944 3264) o8 1 s8 rfl rfl (by decide) rfl rfl rfl rfl rfl) rfl rfl (go ?_)
 have q:=ZuU 0 [(5,0)] ⟨0,0,false,[⟨5,0⟩]⟩ (by decide)
 rw [decide_eq_true (show (⟨0,0,false,Zdh [(5,0)]⟩ : Res) = ⟨0,0,false,[⟨5,0⟩]⟩ from rfl)] at q
 refine Zqw q (go ?_)
 refine cb ⟨rfl,rfl⟩ (go ?_)
 refine Qd (ZhZ o8 1 s8) [some 2944,some 2945,some 3264,some 3265,some 3266,some 3267,some 3268,some 3269,some 3270,some 3271,some 3272,some 3273,some 3274,some 64,some 65,some 3275,some 67,some 68] [] _ _ _ (ZL (ν:=muF 2944 3264) o8 1 s8 (by decide) rfl rfl rfl rfl rfl) (ZL (ν:=muF 2944 3264) o8 1 s8 (by decide) rfl rfl rfl rfl rfl) rfl rfl (go ?_)
 refine Yz o8.ty (Zao o8) rfl rfl (go ?_)
 have hE:=Zca o8 1 s8
 rw [he] at hE
 refine Qd hE [some 2944,some 2945,some 3264,some 3265,some 3266,some 3267,some 3268,some 3269,some 3270,some 3271,some 3272,some 3273,some 3274,some 64,some 65,some 3275,some 67,some 68] [] _ _ _ (ZL (ν:=muF 2944 3264) o8 1 s8 (by decide) rfl rfl rfl rfl rfl) (ZL (ν:=muF 2944 3264) o8 1 s8 (by decide) rfl rfl rfl rfl rfl) rfl rfl (go ?_)
 exact .same rfl
def M15 : Mod:=⟨2,[],0,[]⟩
theorem ZqQ {K0 : Nat} {s : Sto} {S : List Item} {M : Mod} (hr : Rdy 2 K0 s S) (hM : RdM 2 s S M) (c : Cl) (k : Nat) (hK : K0 + 50 ≤ 20000) (hk : k ≤ 45) (h1 : (ho s c k).done = true) (h2 : ∀ j,j < k → (ho s c j).done = false) : ∃ S1 M1,KAlone 2 K0 0 s S M c k S1 M1 ∧ Rdy 2 (K0 + k) (hs s c k) S1 ∧ RdM 2 (hs s c k) S1 M1:=by
 obtain ⟨e,S1,M1,h⟩:=ZeT hr hM 0 c hK
 obtain rfl:=h.len h1 h2
 exact ⟨S1,M1,h,h.y,h.m⟩
def t1 : Sto:=hs (ZbX 2) c1 7
def t2 : Sto:=hs t1 c2 7
def t3 : Sto:=hs t2 c2 7
def t4 : Sto:=hs t3 c4 2
def t5 : Sto:=hs t4 c4 1
def t6 : Sto:=hs t5 c6 14
def t7 : Sto:=hs t6 c7 1
theorem ZbL {o : Kop} {e h : Int} {x : Bool} (h1 : o.res.err = e) (h2 : o.res.handle = h) (h3 : o.res.canc = x) (y : V) : o.resW y = .agg [V.int e,V.int h,V.bool x,y]:=by
 unfold Kop.resW;rw [h1,h2,h3]
theorem ZqP : PSpec Tryz.prog 12 [] (V.bool true):=by
 have hb:=Zl3 (n:=2) ⟨by omega,by omega⟩
 have ht : (ZbX 2).m.Thr:=fun i hi=>by
  by_cases c : i < 4
  · rw [Zet 2 i c] at hi;cases hi
  · unfold Mem.held at hi
    rw [List.getElem?_eq_none (by show (List.replicate 4 (false,(0 : Int))).length ≤ i;simp;omega)] at hi
    cases hi
 have r0 : Rdy 2 0 (ZbX 2) []:=⟨hb,ht,fun i hi=>(by rw [Zet 2 i hi]),by decide⟩
 have m0 : RdM 2 (ZbX 2) [] M15:=⟨rfl,rfl,rfl,fun h y=>by cases y⟩
 obtain ⟨S1,M1,a1,r1,m1⟩:=ZqQ r0 m0 c1 7 (by decide) (by decide) (by decide +kernel) (by decide +kernel)
 have f1:=a1.doF (by decide) (by decide +kernel)
 rw [ZbL (e:=0) (h:=0) (x:=false) (by decide +kernel) (by decide +kernel) (by decide +kernel)] at f1
 have f1 : DoC c1 (ZbX 2) t1 (rF 0 0 false):=f1
 have r1 : Rdy 2 _ t1 S1:=r1
 have m1 : RdM 2 t1 S1 M1:=m1
 obtain ⟨S2,M2,a2,r2,m2⟩:=ZqQ r1 m1 c2 7 (by decide) (by decide) (by decide +kernel) (by decide +kernel)
 have f2:=a2.doF (by decide) (by decide +kernel)
 rw [ZbL (e:=0) (h:=1) (x:=false) (by decide +kernel) (by decide +kernel) (by decide +kernel)] at f2
 have f2 : DoC c2 t1 t2 (rF 0 1 false):=f2
 have r2 : Rdy 2 _ t2 S2:=r2
 have m2 : RdM 2 t2 S2 M2:=m2
 obtain ⟨S3,M3,a3,r3,m3⟩:=ZqQ r2 m2 c2 7 (by decide) (by decide) (by decide +kernel) (by decide +kernel)
 have f3:=a3.doF (by decide) (by decide +kernel)
 rw [ZbL (e:=10) (h:=0) (x:=false) (by decide +kernel) (by decide +kernel) (by decide +kernel)] at f3
 have f3 : DoC c2 t2 t3 (rF 10 0 false):=f3
 have r3 : Rdy 2 _ t3 S3:=r3
 have m3 : RdM 2 t3 S3 M3:=m3
 obtain ⟨S4,M4,a4,r4,m4⟩:=ZqQ r3 m3 c4 2 (by decide) (by decide) (by decide +kernel) (by decide +kernel)
 have f4:=a4.doF (by decide) (by decide +kernel)
 rw [ZbL (e:=0) (h:=0) (x:=true) (by decide +kernel) (by decide +kernel) (by decide +kernel)] at f4
 have f4 : DoC c4 t3 t4 (rF 0 0 true):=f4
 have r4 : Rdy 2 _ t4 S4:=r4
 have m4 : RdM 2 t4 S4 M4:=m4
 obtain ⟨S5,M5,a5,r5,m5⟩:=ZqQ r4 m4 c4 1 (by decide) (by decide) (by decide +kernel) (by decide +kernel)
 have f5:=a5.doF (by decide) (by decide +kernel)
 rw [ZbL (e:=0) (h:=0) (x:=false) (by decide +kernel) (by decide +kernel) (by decide +kernel)] at f5
 have f5 : DoC c4 t4 t5 (rF 0 0 false):=f5
 have r5 : Rdy 2 _ t5 S5:=r5
 have m5 : RdM 2 t5 S5 M5:=m5
 obtain ⟨S6,M6,a6,r6,m6⟩:=ZqQ r5 m5 c6 14 (by decide) (by decide) (by decide +kernel) (by decide +kernel)
 have f6:=a6.doT (by decide) (by decide +kernel)
 rw [ZbL (e:=0) (h:=0) (x:=false) (by decide +kernel) (by decide +kernel) (by decide +kernel),show (Yc (.new ((0 : Nat) : Int) c6) t5 14).1.evl = [(5,0)] by decide +kernel] at f6
 have r6 : Rdy 2 _ t6 S6:=r6
 have m6 : RdM 2 t6 S6 M6:=m6
 obtain ⟨S7,M7,a7,r7,m7⟩:=ZqQ r6 m6 c7 1 (by decide) (by decide) (by decide +kernel) (by decide +kernel)
 have f7:=a7.doF (by decide) (by decide +kernel)
 rw [ZbL (e:=1) (h:=0) (x:=false) (by decide +kernel) (by decide +kernel) (by decide +kernel)] at f7
 have f7 : DoC c7 t6 t7 (rF 1 0 false):=f7
 have r7 : Rdy 2 _ t7 S7:=r7
 have m7 : RdM 2 t7 S7 M7:=m7
 obtain ⟨e8,S8,M8,a8⟩:=ZeT r7 m7 0 c8 (by decide)
 have h8:=a8.st 0 (by have:=a8.e1;omega)
 have e8 : ¬ 0 + 1 = e8:=fun y=>by
  have h9:=a8.dn
  rw [← y] at h9
  have : (Yc (.new ((0 : Nat) : Int) c8) t7 (0 + 1)).1.done = false:=by decide +kernel
  rw [this] at h9;cases h9
 rw [decide_eq_false e8] at h8
 exact Zks (ZbX 2) t1 t2 t3 t4 t5 t6 t7 _ _ (Zk7 2 (by omega)) f1 f2 f3 f4 f5 f6 f7 h8 (by decide +kernel)
set_option maxHeartbeats 8000000 in
theorem ZoT (c : Int) (l : List OpS) (x : Cl) {n : Nat} (s0 : Sto) (hf : s0.m.Fits) (hsz : PSpec Tryz.prog 14 [.c (.int .u8 c)] (V.int n)) (hhd : PSpec Tryz.prog 12 [] (V.bool true))
 (hp : LSpec Tryz.prog 13 [V.int n,Znl l] [] 0 (.tup [.p 0 10 0 0,.p 5 10 0 0]) (ZE s0 2 ++ Zea s0 5 7) 10) : PSpec Tryz.prog 3 [.c (.int .u8 c),Znl l,x.v] (V.bool true):=by
 have hstep:=Zpv 1 false s0 (z:=0) (by omega)
 have heq:=ZuF ⟨1,0,false,[]⟩ ⟨1,0,false,[]⟩ (by show 0 < _;decide)
 rw [decide_eq_true (show (⟨1,0,false,[]⟩ : Res) = ⟨1,0,false,[]⟩ from rfl)] at heq
 refine pspec tab_ok mix Tryz.func3 (by kernel_rfl) rfl rfl ?_
 (refine go ?_; try exact tt)
 refine Zh hhd (go ?_)
 refine Zh hsz (go ?_)
 refine Za hp [] [] rfl (go ?_)
 by_cases g1 : 1 ≤ x.k
 · rw [decide_eq_true g1]
   (refine go ?_; try exact tt)
   by_cases g2 : x.k ≤ 3
   · rw [decide_eq_true g2]
     (refine go ?_; try exact tt)
     exact .same rfl
   · rw [decide_eq_false g2]
     have hnew:=Zl5 s0 1 x
     rw [Kop.new_0 (by omega) (by omega) (by omega)] at hnew
     (refine go ?_; try exact tt)
     refine Za (ZB s0) [some 448,some 449,some 450,some 451,some 452] [] rfl (go ?_)
     refine Za (ZtC s0.m hf) [some 449,some 450,some 451,some 452] [] rfl (go ?_)
     refine Qd hnew [some 448,some 449,some 450,some 451,some 452] [] _ _ (.p 2048 2 0 0) rfl (Zgy (ν:=fun x=>2048 + x) (Kop.unk 1 false) s0 (by decide) rfl rfl rfl rfl rfl) rfl rfl (go ?_)
     refine Yz (Kop.unk 1 false).ty (Zao _) rfl rfl (go ?_)
     refine Qd (Zca (.unk 1 false) 0 s0) [some 2048,some 2049,some 2050,some 2051,some 2052,some 2053,some 2054,some 2055,some 2056,some 2057,some 2058,some 2059,some 2060,some 448,some 449,some 450,some 451,some 452] [] _ _ _ (ZL (ν:=fun x=>2048 + x) (Kop.unk 1 false) 0 s0 (by decide) rfl rfl rfl rfl rfl) (ZL (ν:=fun x=>2048 + x) (Kop.unk 1 false) 0 s0 (by decide) rfl rfl rfl rfl rfl) rfl rfl (go ?_)
     refine Qd (ZhZ (.unk 1 false) 0 s0) [some 2048,some 2049,some 2050,some 2051,some 2052,some 2053,some 2054,some 2055,some 2056,some 2057,some 2058,some 2059,some 2060,some 448,some 449,some 450,some 451,some 452] [] _ _ _ (ZL (ν:=fun x=>2048 + x) (Kop.unk 1 false) 0 s0 (by decide) rfl rfl rfl rfl rfl) (ZL (ν:=fun x=>2048 + x) (Kop.unk 1 false) 0 s0 (by decide) rfl rfl rfl rfl rfl) rfl rfl (go ?_)
     refine Qd hstep [some 2048,some 2049,some 2050,some 2051,some 2052,some 2053,some 2054,some 2055,some 2056,some 2057,some 2058,some 2059,some 2060,some 448,some 449,some 450,some 451,some 452] [] _ _ _ (ZL (ν:=fun x=>2048 + x) (Kop.unk 1 false) 0 s0 (by decide) rfl rfl rfl rfl rfl) (Zg1 (ν:=muF 2048 3264) (Kop.unk 1 true) 1 s0 rfl rfl (by decide) rfl rfl rfl rfl rfl) rfl rfl (go ?_)
     refine Yz (Kop.unk 1 true).ty (Zao _) rfl rfl (go ?_)
     refine Qd (Zca (.unk 1 true) 1 s0) [some 2048,some 2049,some 3264,some 3265,some 3266,some 3267,some 3268,some 3269,some 3270,some 3271,some 3272,some 3273,some 3274,some 448,some 449,some 3275,some 451,some 452] [] _ _ _ (ZL (ν:=muF 2048 3264) (Kop.unk 1 true) 1 s0 (by decide) rfl rfl rfl rfl rfl) (ZL (ν:=muF 2048 3264) (Kop.unk 1 true) 1 s0 (by decide) rfl rfl rfl rfl rfl) rfl rfl (go ?_)
     refine Yz (Kop.unk 1 true).ty (ZdQ _) rfl rfl (go ?_)
     refine Qd (Zg9 (.unk 1 true) 1 s0) [some 2048,some 2049,some 3264,some 3265,some 3266,some 3267,some 3268,some 3269,some 3270,some 3271,some 3272,some 3273,some 3274,some 448,some 449,some 3275,some 451,some 452] [] _ _ _ (ZL (ν:=muF 2048 3264) (Kop.unk 1 true) 1 s0 (by decide) rfl rfl rfl rfl rfl) (ZL (ν:=muF 2048 3264) (Kop.unk 1 true) 1 s0 (by decide) rfl rfl rfl rfl rfl) rfl rfl (go ?_)
     refine Yz (Kop.unk 1 true).ty (Zbd _) rfl rfl (go ?_)
     refine Qd (Zdq (.unk 1 true) 1 s0) [some 2048,some 2049,some 3264,some 3265,some 3266,some 3267,some 3268,some 3269,some 3270,some 3271,some 3272,some 3273,some 3274,some 448,some 449,some 3275,some 451,some 452] [] _ _ _ (ZL (ν:=muF 2048 3264) (Kop.unk 1 true) 1 s0 (by decide) rfl rfl rfl rfl rfl) (ZL (ν:=muF 2048 3264) (Kop.unk 1 true) 1 s0 (by decide) rfl rfl rfl rfl rfl) rfl rfl (go ?_)
     refine Zqw heq (go ?_)
     refine Za (ZB s0) [some 448,some 449,some 3275,some 451,some 452] [] rfl (go ?_)
     refine Za (ZtC s0.m hf) [some 449,some 3275,some 451,some 452] [] rfl (go ?_)
     rw [decide_eq_true (show (s0.m.log.length : Int) = s0.m.log.length from rfl)]
     exact .same rfl
 · rw [decide_eq_false g1]
   have hnew:=Zl5 s0 1 x
   rw [Kop.new_0 (by omega) (by omega) (by omega)] at hnew
   (refine go ?_; try exact tt)
   refine Za (ZB s0) [some 448,some 449,some 450,some 451,some 452] [] rfl (go ?_)
   refine Za (ZtC s0.m hf) [some 449,some 450,some 451,some 452] [] rfl (go ?_)
   refine Qd hnew [some 448,some 449,some 450,some 451,some 452] [] _ _ (.p 2048 2 0 0) rfl (Zgy (ν:=fun x=>2048 + x) (Kop.unk 1 false) s0 (by decide) rfl rfl rfl rfl rfl) rfl rfl (go ?_)
   refine Yz (Kop.unk 1 false).ty (Zao _) rfl rfl (go ?_)
   refine Qd (Zca (.unk 1 false) 0 s0) [some 2048,some 2049,some 2050,some 2051,some 2052,some 2053,some 2054,some 2055,some 2056,some 2057,some 2058,some 2059,some 2060,some 448,some 449,some 450,some 451,some 452] [] _ _ _ (ZL (ν:=fun x=>2048 + x) (Kop.unk 1 false) 0 s0 (by decide) rfl rfl rfl rfl rfl) (ZL (ν:=fun x=>2048 + x) (Kop.unk 1 false) 0 s0 (by decide) rfl rfl rfl rfl rfl) rfl rfl (go ?_)
   refine Qd (ZhZ (.unk 1 false) 0 s0) [some 2048,some 2049,some 2050,some 2051,some 2052,some 2053,some 2054,some 2055,some 2056,some 2057,some 2058,some 2059,some 2060,some 448,some 449,some 450,some 451,some 452] [] _ _ _ (ZL (ν:=fun x=>2048 + x) (Kop.unk 1 false) 0 s0 (by decide) rfl rfl rfl rfl rfl) (ZL (ν:=fun x=>2048 + x) (Kop.unk 1 false) 0 s0 (by decide) rfl rfl rfl rfl rfl) rfl rfl (go ?_)
   refine Qd hstep [some 2048,some 2049,some 2050,some 2051,some 2052,some 2053,some 2054,some 2055,some 2056,some 2057,some 2058,some 2059,some 2060,some 448,some 449,some 450,some 451,some 452] [] _ _ _ (ZL (ν:=fun x=>2048 + x) (Kop.unk 1 false) 0 s0 (by decide) rfl rfl rfl rfl rfl) (Zg1 (ν:=muF 2048 3264) (Kop.unk 1 true) 1 s0 rfl rfl (by decide) rfl rfl rfl rfl rfl) rfl rfl (go ?_)
   refine Yz (Kop.unk 1 true).ty (Zao _) rfl rfl (go ?_)
   refine Qd (Zca (.unk 1 true) 1 s0) [some 2048,some 2049,some 3264,some 3265,some 3266,some 3267,some 3268,some 3269,some 3270,some 3271,some 3272,some 3273,some 3274,some 448,some 449,some 3275,some 451,some 452] [] _ _ _ (ZL (ν:=muF 2048 3264) (Kop.unk 1 true) 1 s0 (by decide) rfl rfl rfl rfl rfl) (ZL (ν:=muF 2048 3264) (Kop.unk 1 true) 1 s0 (by decide) rfl rfl rfl rfl rfl) rfl rfl (go ?_)
   refine Yz (Kop.unk 1 true).ty (ZdQ _) rfl rfl (go ?_)
   refine Qd (Zg9 (.unk 1 true) 1 s0) [some 2048,some 2049,some 3264,some 3265,some 3266,some 3267,some 3268,some 3269,some 3270,some 3271,some 3272,some 3273,some 3274,some 448,some 449,some 3275,some 451,some 452] [] _ _ _ (ZL (ν:=muF 2048 3264) (Kop.unk 1 true) 1 s0 (by decide) rfl rfl rfl rfl rfl) (ZL (ν:=muF 2048 3264) (Kop.unk 1 true) 1 s0 (by decide) rfl rfl rfl rfl rfl) rfl rfl (go ?_)
   refine Yz (Kop.unk 1 true).ty (Zbd _) rfl rfl (go ?_)
   refine Qd (Zdq (.unk 1 true) 1 s0) [some 2048,some 2049,some 3264,some 3265,some 3266,some 3267,some 3268,some 3269,some 3270,some 3271,some 3272,some 3273,some 3274,some 448,some 449,some 3275,some 451,some 452] [] _ _ _ (ZL (ν:=muF 2048 3264) (Kop.unk 1 true) 1 s0 (by decide) rfl rfl rfl rfl rfl) (ZL (ν:=muF 2048 3264) (Kop.unk 1 true) 1 s0 (by decide) rfl rfl rfl rfl rfl) rfl rfl (go ?_)
   refine Zqw heq (go ?_)
   refine Za (ZB s0) [some 448,some 449,some 3275,some 451,some 452] [] rfl (go ?_)
   refine Za (ZtC s0.m hf) [some 449,some 3275,some 451,some 452] [] rfl (go ?_)
   rw [decide_eq_true (show (s0.m.log.length : Int) = s0.m.log.length from rfl)]
   exact .same rfl
theorem cpqUnknown (c : Int) (hc : 0 ≤ c ∧ c ≤ 255) (l : List OpS) (hl : ∀ o ∈ l,o.Ok) (x : Cl) : PSpec Tryz.prog 3 [.c (.int .u8 c),Znl l,x.v] (V.bool true):=by
 obtain ⟨_,hn⟩:=ZmW hc.1
 have hr:=Zka hn hl
 exact ZoT c l x _ hr.ok.fits.mem (Zt3 c hc) ZqP (Zl0 hn l hl)
end Go.Proofs.YtdjnjchpgccbiaaGreat.Abs
