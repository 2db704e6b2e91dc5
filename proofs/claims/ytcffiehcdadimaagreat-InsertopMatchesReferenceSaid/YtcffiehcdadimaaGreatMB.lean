/- Insertions: the reference's methods. -/
import Derived.Test.YtcffiehcdadimaaGreatMA
namespace Go.Proofs.YtcffiehcdadimaaGreat.Abs
open Go.Proofs
set_option maxRecDepth 10000
set_option linter.unusedSimpArgs false
set_option linter.unusedVariables false
structure Cl where
 k : Int
 t : Int
 h : Int
 m : Int
 b : Int
def Cl.v (c : Cl) : V := .agg [V.int c.k, V.int c.t, V.int c.h, V.int c.m, V.int c.b]
structure RI where
 st : Int
 h0 : Bool
 h1 : Bool
 h2 : Bool
 e : Int
 h : Int
 ok : Bool
 pl : Bool
 pt : Bool
 wt : Bool
 en : Bool
def rI (a : Nat) (th : Int) (c : Cl) (r : RI) : B :=
 .rows 20 [[.p a 10 0 0, V.int th, V.int c.k, V.int c.t, V.int c.h, V.int c.m, V.int c.b, V.int r.st, V.bool r.h0, V.bool r.h1, V.bool r.h2, V.int r.e, V.int r.h, V.bool false, nilS, V.bool r.ok, V.bool r.pl, V.bool r.pt, V.bool r.wt, V.bool r.en]]
def rI0 (th : Int) (c : Cl) (r : RI) (s : Sto) (l : Nat) : List (Nat × B) := (0, rI 1 th c r) :: rstoAt s 1 l
theorem rTopC (th : Int) (c : Cl) (r : RI) (s : Sto) (hf : s.Fits) (hw : 0 < s.m.words.length) :
 LSpec Tryz.prog 90 [.p 0 20 0 0] (rI0 th c r s 3) 6 (V.int (s.m.word 0)) (rI0 th c r { s with m := s.m.load th 0 } 6) 7 := by
 have hc := rDoLoad s.m th 0 hw hf.mem 0 0
 generalize s.m.load th 0 = m' at *
 generalize s.m.word 0 = w at *
 refine lspec tab_ok mix Tryz.func90 (by kernel_rfl) (by rfl) (by rfl) (by rfl) (by rfl) ?_
 (refine go ?_; try exact True.intro)
 refine dcallL hc [some 2, some 3, some 4, some 5] [] (go ?_)
 refine .mk [(6, 896)] (go ?_); try exact True.intro
theorem rLockNo (th : Int) (c : Cl) (r : RI) (s : Sto) (i : Nat) (n : Int) (hi : i < 4) (hm : 4 ≤ s.m.mtx.length) (ht : s.m.Thr) (h0 : 0 ≤ th) (hf : s.Fits) (hl : (s.m.lock th i).2 = false) :
 LSpec Tryz.prog 91 [.p 0 20 0 0, V.int i, V.int n] (rI0 th c r s 3) 6 (V.bool false) (rI0 th c { r with wt := true } { s with m := (s.m.lock th i).1 } 6) 7 := by
 have hc := rDoLock s.m th i (by omega) ht hf.mem 0 0
 rw [hl] at hc
 generalize (s.m.lock th i).1 = m' at *
 refine lspec tab_ok mix Tryz.func91 (by kernel_rfl) (by rfl) (by rfl) (by rfl) (by rfl) ?_
 (refine go ?_; try exact True.intro)
 refine dcallL hc [some 2, some 3, some 4, some 5] [] (go ?_)
 refine .mk [(6, 960)] (go ?_); try exact True.intro
def RI.hold (r : RI) (i : Nat) (z : Bool) : RI := match i with
 | 0 => { r with h0 := z }
 | 1 => { r with h1 := z }
 | 2 => { r with h2 := z }
 | _ => r
theorem rLockOk (th : Int) (c : Cl) (r : RI) (s : Sto) (i : Nat) (n : Int) (hi : i < 4) (hm : 4 ≤ s.m.mtx.length) (ht : s.m.Thr) (h0 : 0 ≤ th) (hf : s.Fits) (hl : (s.m.lock th i).2 = true) :
 LSpec Tryz.prog 91 [.p 0 20 0 0, V.int i, V.int n] (rI0 th c r s 3) 6 (V.bool false) (rI0 th c { r.hold i true with st := n } { s with m := (s.m.lock th i).1 } 6) 7 := by
 have hc := rDoLock s.m th i (by omega) ht hf.mem 0 0
 rw [hl] at hc
 generalize (s.m.lock th i).1 = m' at *
 rcases (show i = 0 ∨ i = 1 ∨ i = 2 ∨ i = 3 by omega) with rfl | rfl | rfl | rfl <;> (
  refine lspec tab_ok mix Tryz.func91 (by kernel_rfl) (by rfl) (by rfl) (by rfl) (by rfl) ?_
  (refine go ?_; try exact True.intro)
  refine dcallL hc [some 2, some 3, some 4, some 5] [] (go ?_)
  refine .mk [(6, 960)] ?_
  (refine go ?_; try exact True.intro))
theorem rUnlockC' (th : Int) (c : Cl) (r : RI) (s : Sto) (i : Nat) (hi : i < 4) (hm : 4 ≤ s.m.mtx.length) (ht : s.m.Thr) (h0 : 0 ≤ th) (hf : s.Fits) :
 LSpec Tryz.prog 92 [.p 0 20 0 0, V.int i] (rI0 th c r s 3) 6 (.tup []) (rI0 th c (r.hold i false) { s with m := (s.m.unlock th i).1 } 6) 7 := by
 have hc := rDoUnlock s.m th i (by omega) ht h0 hf.mem 0 0
 generalize (s.m.unlock th i).1 = m' at *
 generalize (s.m.unlock th i).2 = z at *
 rcases (show i = 0 ∨ i = 1 ∨ i = 2 ∨ i = 3 by omega) with rfl | rfl | rfl | rfl <;> (
  refine lspec tab_ok mix Tryz.func92 (by kernel_rfl) (by rfl) (by rfl) (by rfl) (by rfl) ?_
  (refine go ?_; try exact True.intro)
  refine dcallL hc [some 2, some 3, some 4, some 5] [] (go ?_)
  refine .mk [(6, 896)] ?_
  (refine go ?_; try exact True.intro))
end Go.Proofs.YtcffiehcdadimaaGreat.Abs
/- Insertions: the reference's release. Printed by tools/gen11.py. -/
namespace Go.Proofs.YtcffiehcdadimaaGreat.Abs
open Go.Proofs
set_option maxRecDepth 10000
set_option linter.unusedSimpArgs false
set_option linter.unusedVariables false
set_option maxHeartbeats 4000000
def dn : Nat → Int
 | 0 => 2
 | 1 => 1
 | _ => 0
theorem rRel_tn (th : Int) (c : Cl) (e h : Int) (pt wt en : Bool) (s : Sto) (hm : 4 ≤ s.m.mtx.length) (ht : s.m.Thr) (h0 : 0 ≤ th) (hf : s.Fits) :
 LSpec Tryz.prog 95 [.p 0 20 0 0] (rI0 th c ⟨10, true, false, false, e, h, false, false, pt, wt, en⟩ s 3) 6 (V.bool true) (rI0 th c ⟨10, false, false, false, e, h, false, false, pt, wt, true⟩ { s with m := (s.m.unlock th 0).1 } 6) 7 := by
 have hu := rUnlockC' th c ⟨10, true, false, false, e, h, false, false, pt, wt, en⟩ s 0 (by omega) hm ht h0 hf
 generalize (s.m.unlock th 0).1 = m' at *
 refine lspec tab_ok mix Tryz.func95 (by kernel_rfl) (by rfl) (by rfl) (by rfl) (by rfl) ?_
 (refine go ?_; try exact True.intro)
 refine loopB tab_ok mix [0] [0, 1, 2, 3, 4, 5] (fun k : Nat => [(3, V.int (dn k))]) (fun k => []) (fun k => k ≤ 2) (fun k => 2 - k) [] 0 rfl (by omega) (by (refine go ?_; try exact True.intro)) ?_
 intro k hk
 rcases (show k = 0 ∨ k = 1 ∨ k = 2 by omega) with rfl | rfl | rfl
 · (refine go ?_; try exact True.intro)
   refine wrB (by decide) (go ?_)
   refine .mk [] 1 (by omega) (by decide) (go ?_); try exact True.intro
 · (refine go ?_; try exact True.intro)
   refine wrB (by decide) (go ?_)
   refine .mk [] 2 (by omega) (by decide) (go ?_); try exact True.intro
 · (refine go ?_; try exact True.intro)
   refine callL hu [some 0, some 1, some 2, some 3, some 4, some 5] [] rfl (go ?_)
   refine .mk [(6, 1536)] (go ?_); try exact True.intro
theorem rRel_tp (th : Int) (c : Cl) (e h : Int) (pt wt en : Bool) (s : Sto) (s' : Sto) {x : Nat} (hx : slotH h = (x : Int)) (hp : LSpec Tryz.prog 109 [.p 0 10 0 0, V.int th, V.int x] (rstoB s 2) 5 (.tup []) (rstoB s' 2) 5) (hm : 4 ≤ s'.m.mtx.length) (ht : s'.m.Thr) (h0 : 0 ≤ th) (hf : s'.Fits) :
 LSpec Tryz.prog 95 [.p 0 20 0 0] (rI0 th c ⟨10, true, false, false, e, h, true, false, pt, wt, en⟩ s 3) 6 (V.bool true) (rI0 th c ⟨10, false, false, false, e, h, true, true, pt, wt, true⟩ { s' with m := (s'.m.unlock th 0).1 } 6) 7 := by
 have hu := rUnlockC' th c ⟨10, true, false, false, e, h, true, true, pt, wt, en⟩ s' 0 (by omega) hm ht h0 hf
 generalize (s'.m.unlock th 0).1 = m' at *
 refine lspec tab_ok mix Tryz.func95 (by kernel_rfl) (by rfl) (by rfl) (by rfl) (by rfl) ?_
 (refine go ?_; try exact True.intro)
 refine dcallB (rSlotC h) ?_
 rw [hx]
 (refine go ?_; try exact True.intro)
 refine dcallL hp [some 1, some 2, some 3, some 4, some 5] [] (go ?_)
 refine loopB tab_ok mix [0] [0, 1, 2, 3, 4, 5] (fun k : Nat => [(3, V.int (dn k))]) (fun k => []) (fun k => k ≤ 2) (fun k => 2 - k) [] 0 rfl (by omega) (by (refine go ?_; try exact True.intro)) ?_
 intro k hk
 rcases (show k = 0 ∨ k = 1 ∨ k = 2 by omega) with rfl | rfl | rfl
 · (refine go ?_; try exact True.intro)
   refine wrB (by decide) (go ?_)
   refine .mk [] 1 (by omega) (by decide) (go ?_); try exact True.intro
 · (refine go ?_; try exact True.intro)
   refine wrB (by decide) (go ?_)
   refine .mk [] 2 (by omega) (by decide) (go ?_); try exact True.intro
 · (refine go ?_; try exact True.intro)
   refine callL hu [some 0, some 1, some 2, some 3, some 4, some 5] [] rfl (go ?_)
   refine .mk [(6, 2752)] (go ?_); try exact True.intro
theorem rRel_rn (th : Int) (c : Cl) (e h : Int) (pt wt en : Bool) (s : Sto) (hm : 4 ≤ s.m.mtx.length) (ht : s.m.Thr) (h0 : 0 ≤ th) (hf : s.Fits) :
 LSpec Tryz.prog 95 [.p 0 20 0 0] (rI0 th c ⟨10, false, true, false, e, h, false, false, pt, wt, en⟩ s 3) 6 (V.bool true) (rI0 th c ⟨10, false, false, false, e, h, false, false, pt, wt, true⟩ { s with m := (s.m.unlock th 1).1 } 6) 7 := by
 have hu := rUnlockC' th c ⟨10, false, true, false, e, h, false, false, pt, wt, en⟩ s 1 (by omega) hm ht h0 hf
 generalize (s.m.unlock th 1).1 = m' at *
 refine lspec tab_ok mix Tryz.func95 (by kernel_rfl) (by rfl) (by rfl) (by rfl) (by rfl) ?_
 (refine go ?_; try exact True.intro)
 refine loopB tab_ok mix [0] [0, 1, 2, 3, 4, 5] (fun k : Nat => [(3, V.int (dn k))]) (fun k => []) (fun k => k ≤ 1) (fun k => 1 - k) [] 0 rfl (by omega) (by (refine go ?_; try exact True.intro)) ?_
 intro k hk
 rcases (show k = 0 ∨ k = 1 by omega) with rfl | rfl
 · (refine go ?_; try exact True.intro)
   refine wrB (by decide) (go ?_)
   refine .mk [] 1 (by omega) (by decide) (go ?_); try exact True.intro
 · (refine go ?_; try exact True.intro)
   refine callL hu [some 0, some 1, some 2, some 3, some 4, some 5] [] rfl (go ?_)
   refine .mk [(6, 1536)] (go ?_); try exact True.intro
theorem rRel_rp (th : Int) (c : Cl) (e h : Int) (pt wt en : Bool) (s : Sto) (s' : Sto) {x : Nat} (hx : slotH h = (x : Int)) (hp : LSpec Tryz.prog 109 [.p 0 10 0 0, V.int th, V.int x] (rstoB s 2) 5 (.tup []) (rstoB s' 2) 5) (hm : 4 ≤ s'.m.mtx.length) (ht : s'.m.Thr) (h0 : 0 ≤ th) (hf : s'.Fits) :
 LSpec Tryz.prog 95 [.p 0 20 0 0] (rI0 th c ⟨10, false, true, false, e, h, true, false, pt, wt, en⟩ s 3) 6 (V.bool true) (rI0 th c ⟨10, false, false, false, e, h, true, true, pt, wt, true⟩ { s' with m := (s'.m.unlock th 1).1 } 6) 7 := by
 have hu := rUnlockC' th c ⟨10, false, true, false, e, h, true, true, pt, wt, en⟩ s' 1 (by omega) hm ht h0 hf
 generalize (s'.m.unlock th 1).1 = m' at *
 refine lspec tab_ok mix Tryz.func95 (by kernel_rfl) (by rfl) (by rfl) (by rfl) (by rfl) ?_
 (refine go ?_; try exact True.intro)
 refine dcallB (rSlotC h) ?_
 rw [hx]
 (refine go ?_; try exact True.intro)
 refine dcallL hp [some 1, some 2, some 3, some 4, some 5] [] (go ?_)
 refine loopB tab_ok mix [0] [0, 1, 2, 3, 4, 5] (fun k : Nat => [(3, V.int (dn k))]) (fun k => []) (fun k => k ≤ 1) (fun k => 1 - k) [] 0 rfl (by omega) (by (refine go ?_; try exact True.intro)) ?_
 intro k hk
 rcases (show k = 0 ∨ k = 1 by omega) with rfl | rfl
 · (refine go ?_; try exact True.intro)
   refine wrB (by decide) (go ?_)
   refine .mk [] 1 (by omega) (by decide) (go ?_); try exact True.intro
 · (refine go ?_; try exact True.intro)
   refine callL hu [some 0, some 1, some 2, some 3, some 4, some 5] [] rfl (go ?_)
   refine .mk [(6, 2752)] (go ?_); try exact True.intro
theorem rRel_bn (th : Int) (c : Cl) (e h : Int) (pt wt en : Bool) (s : Sto) (hm : 4 ≤ s.m.mtx.length) (ht : s.m.Thr) (h0 : 0 ≤ th) (hf : s.Fits) :
 LSpec Tryz.prog 95 [.p 0 20 0 0] (rI0 th c ⟨10, false, true, true, e, h, false, false, pt, wt, en⟩ s 3) 6 (V.bool false) (rI0 th c ⟨10, false, true, false, e, h, false, false, pt, wt, false⟩ { s with m := (s.m.unlock th 2).1 } 6) 7 := by
 have hu := rUnlockC' th c ⟨10, false, true, true, e, h, false, false, pt, wt, en⟩ s 2 (by omega) hm ht h0 hf
 generalize (s.m.unlock th 2).1 = m' at *
 refine lspec tab_ok mix Tryz.func95 (by kernel_rfl) (by rfl) (by rfl) (by rfl) (by rfl) ?_
 (refine go ?_; try exact True.intro)
 refine loopB tab_ok mix [0] [0, 1, 2, 3, 4, 5] (fun k : Nat => [(3, V.int (dn k))]) (fun k => []) (fun k => k ≤ 0) (fun k => 0 - k) [] 0 rfl (by omega) (by (refine go ?_; try exact True.intro)) ?_
 intro k hk
 rcases (show k = 0 by omega) with rfl
 (refine go ?_; try exact True.intro)
 refine callL hu [some 0, some 1, some 2, some 3, some 4, some 5] [] rfl (go ?_)
 refine .mk [(6, 1536)] (go ?_); try exact True.intro
theorem rRel_bp (th : Int) (c : Cl) (e h : Int) (pt wt en : Bool) (s : Sto) (s' : Sto) {x : Nat} (hx : slotH h = (x : Int)) (hp : LSpec Tryz.prog 109 [.p 0 10 0 0, V.int th, V.int x] (rstoB s 2) 5 (.tup []) (rstoB s' 2) 5) (hm : 4 ≤ s'.m.mtx.length) (ht : s'.m.Thr) (h0 : 0 ≤ th) (hf : s'.Fits) :
 LSpec Tryz.prog 95 [.p 0 20 0 0] (rI0 th c ⟨10, false, true, true, e, h, true, false, pt, wt, en⟩ s 3) 6 (V.bool false) (rI0 th c ⟨10, false, true, false, e, h, true, true, pt, wt, false⟩ { s' with m := (s'.m.unlock th 2).1 } 6) 7 := by
 have hu := rUnlockC' th c ⟨10, false, true, true, e, h, true, true, pt, wt, en⟩ s' 2 (by omega) hm ht h0 hf
 generalize (s'.m.unlock th 2).1 = m' at *
 refine lspec tab_ok mix Tryz.func95 (by kernel_rfl) (by rfl) (by rfl) (by rfl) (by rfl) ?_
 (refine go ?_; try exact True.intro)
 refine dcallB (rSlotC h) ?_
 rw [hx]
 (refine go ?_; try exact True.intro)
 refine dcallL hp [some 1, some 2, some 3, some 4, some 5] [] (go ?_)
 refine loopB tab_ok mix [0] [0, 1, 2, 3, 4, 5] (fun k : Nat => [(3, V.int (dn k))]) (fun k => []) (fun k => k ≤ 0) (fun k => 0 - k) [] 0 rfl (by omega) (by (refine go ?_; try exact True.intro)) ?_
 intro k hk
 rcases (show k = 0 by omega) with rfl
 (refine go ?_; try exact True.intro)
 refine callL hu [some 0, some 1, some 2, some 3, some 4, some 5] [] rfl (go ?_)
 refine .mk [(6, 2752)] (go ?_); try exact True.intro
theorem rRel_rl (th : Int) (c : Cl) (e h : Int) (pt wt en : Bool) (s : Sto) (hm : 4 ≤ s.m.mtx.length) (ht : s.m.Thr) (h0 : 0 ≤ th) (hf : s.Fits) :
 LSpec Tryz.prog 95 [.p 0 20 0 0] (rI0 th c ⟨10, false, true, false, e, h, true, true, pt, wt, en⟩ s 3) 6 (V.bool true) (rI0 th c ⟨10, false, false, false, e, h, true, true, pt, wt, true⟩ { s with m := (s.m.unlock th 1).1 } 6) 7 := by
 have hu := rUnlockC' th c ⟨10, false, true, false, e, h, true, true, pt, wt, en⟩ s 1 (by omega) hm ht h0 hf
 generalize (s.m.unlock th 1).1 = m' at *
 refine lspec tab_ok mix Tryz.func95 (by kernel_rfl) (by rfl) (by rfl) (by rfl) (by rfl) ?_
 (refine go ?_; try exact True.intro)
 refine loopB tab_ok mix [0] [0, 1, 2, 3, 4, 5] (fun k : Nat => [(3, V.int (dn k))]) (fun k => []) (fun k => k ≤ 1) (fun k => 1 - k) [] 0 rfl (by omega) (by (refine go ?_; try exact True.intro)) ?_
 intro k hk
 rcases (show k = 0 ∨ k = 1 by omega) with rfl | rfl
 · (refine go ?_; try exact True.intro)
   refine wrB (by decide) (go ?_)
   refine .mk [] 1 (by omega) (by decide) (go ?_); try exact True.intro
 · (refine go ?_; try exact True.intro)
   refine callL hu [some 0, some 1, some 2, some 3, some 4, some 5] [] rfl (go ?_)
   refine .mk [(6, 1536)] (go ?_); try exact True.intro
end Go.Proofs.YtcffiehcdadimaaGreat.Abs
/- Insertions: the reference's steps. -/
namespace Go.Proofs.YtcffiehcdadimaaGreat.Abs
open Go.Proofs
set_option maxRecDepth 10000
set_option linter.unusedSimpArgs false
set_option linter.unusedVariables false
set_option maxHeartbeats 4000000
abbrev RStep (th : Int) (c : Cl) (r : RI) (s : Sto) (z : Bool) (r' : RI) (s' : Sto) : Prop := LSpec Tryz.prog 55 [.p 0 20 0 0] (rI0 th c r s 3) 6 (V.bool z) (rI0 th c r' s' 6) 7
theorem rS_bad (th : Int) (c : Cl) (r : RI) (s : Sto) (hs : r.st = 1) (ht : c.t < 0 ∨ 1152921504606846976 < c.t) : RStep th c r s true { r with e := 1, h := 0, pt := true, wt := false, en := true } s := by
 obtain ⟨st, g0, g1, g2, e, h, ok, pl, pt, wt, en⟩ := r
 dsimp only at hs
 subst hs
 refine lspec tab_ok mix Tryz.func55 (by kernel_rfl) (by rfl) (by rfl) (by rfl) (by rfl) ?_
 (refine go ?_; try exact True.intro)
 by_cases h1 : c.t < 0
 · rw [decide_eq_true h1]
   (refine go ?_; try exact True.intro)
   refine .mk [(6, 3)] (go ?_); try exact True.intro
 · rw [decide_eq_false h1]
   (refine go ?_; try exact True.intro)
   rw [decide_eq_true (ht.resolve_left h1)]
   (refine go ?_; try exact True.intro)
   refine .mk [(6, 3)] (go ?_); try exact True.intro
theorem rS_start (th : Int) (c : Cl) (r : RI) (s : Sto) (hs : r.st = 1) (ht : ¬ (c.t < 0 ∨ 1152921504606846976 < c.t)) (hf : s.Fits) (hw : 0 < s.m.words.length) (n : Int) (hn : n = if s.m.word 0 ≤ c.t then 2 else 4) :
 RStep th c r s false { r with st := n, pt := false, wt := false } { s with m := s.m.load th 0 } := by
 have hc := rTopC th c { r with st := 4, pt := false, wt := false } s hf hw
 obtain ⟨st, g0, g1, g2, e, h, ok, pl, pt, wt, en⟩ := r
 dsimp only at hs hc ⊢
 subst hs
 generalize s.m.load th 0 = m' at *
 generalize s.m.word 0 = w at *
 by_cases h1 : w ≤ c.t
 · rw [if_pos h1] at hn
   subst hn
   refine lspec tab_ok mix Tryz.func55 (by kernel_rfl) (by rfl) (by rfl) (by rfl) (by rfl) ?_
   (refine go ?_; try exact True.intro)
   rw [decide_eq_false (fun x => ht (.inl x))]
   (refine go ?_; try exact True.intro)
   rw [decide_eq_false (fun x => ht (.inr x))]
   (refine go ?_; try exact True.intro)
   refine callL hc [some 0, some 1, some 2, some 3, some 4, some 5] [] rfl (go ?_)
   rw [decide_eq_true h1]
   (refine go ?_; try exact True.intro)
   refine .mk [(6, 2176)] (go ?_); try exact True.intro
 · rw [if_neg h1] at hn
   subst hn
   refine lspec tab_ok mix Tryz.func55 (by kernel_rfl) (by rfl) (by rfl) (by rfl) (by rfl) ?_
   (refine go ?_; try exact True.intro)
   rw [decide_eq_false (fun x => ht (.inl x))]
   (refine go ?_; try exact True.intro)
   rw [decide_eq_false (fun x => ht (.inr x))]
   (refine go ?_; try exact True.intro)
   refine callL hc [some 0, some 1, some 2, some 3, some 4, some 5] [] rfl (go ?_)
   rw [decide_eq_false h1]
   (refine go ?_; try exact True.intro)
   refine .mk [(6, 2176)] (go ?_); try exact True.intro
theorem rS_lock (th : Int) (c : Cl) (r r' : RI) (s s' : Sto) (st : Int) (i : Nat) (n : Int) (hs : (st = 2 ∧ i = 0 ∧ n = 3) ∨ (st = 4 ∧ i = 1 ∧ n = 5) ∨ (st = 6 ∧ i = 2 ∧ n = 7) ∨ (st = 7 ∧ i = 3 ∧ n = 8))
 (hc : LSpec Tryz.prog 91 [.p 0 20 0 0, V.int i, V.int n] (rI0 th c { r with st := st, pt := false, wt := false } s 3) 6 (V.bool false) (rI0 th c r' s' 6) 7) : RStep th c { r with st := st } s false r' s' := by
 obtain ⟨st0, g0, g1, g2, e, h, ok, pl, pt, wt, en⟩ := r
 dsimp only at hc ⊢
 rcases hs with ⟨rfl, rfl, rfl⟩ | ⟨rfl, rfl, rfl⟩ | ⟨rfl, rfl, rfl⟩ | ⟨rfl, rfl, rfl⟩
 · refine lspec tab_ok mix Tryz.func55 (by kernel_rfl) (by rfl) (by rfl) (by rfl) (by rfl) ?_
   (refine go ?_; try exact True.intro)
   refine callL hc [some 0, some 1, some 2, some 3, some 4, some 5] [] rfl (go ?_)
   refine .mk [(6, 1600)] (go ?_); try exact True.intro
 · refine lspec tab_ok mix Tryz.func55 (by kernel_rfl) (by rfl) (by rfl) (by rfl) (by rfl) ?_
   (refine go ?_; try exact True.intro)
   refine callL hc [some 0, some 1, some 2, some 3, some 4, some 5] [] rfl (go ?_)
   refine .mk [(6, 1984)] (go ?_); try exact True.intro
 · refine lspec tab_ok mix Tryz.func55 (by kernel_rfl) (by rfl) (by rfl) (by rfl) (by rfl) ?_
   (refine go ?_; try exact True.intro)
   refine callL hc [some 0, some 1, some 2, some 3, some 4, some 5] [] rfl (go ?_)
   refine .mk [(6, 2240)] (go ?_); try exact True.intro
 · refine lspec tab_ok mix Tryz.func55 (by kernel_rfl) (by rfl) (by rfl) (by rfl) (by rfl) ?_
   (refine go ?_; try exact True.intro)
   refine callL hc [some 0, some 1, some 2, some 3, some 4, some 5] [] rfl (go ?_)
   refine .mk [(6, 2368)] (go ?_); try exact True.intro
theorem rS_conf (th : Int) (c : Cl) (r : RI) (s : Sto) (hs : r.st = 3) (hf : s.Fits) (hw : 0 < s.m.words.length) (n : Int) (hn : n = if s.m.word 0 ≤ c.t then 7 else 31) :
 RStep th c r s false { r with st := n, pt := false, wt := false } { s with m := s.m.load th 0 } := by
 have hc := rTopC th c { r with st := 31, pt := false, wt := false } s hf hw
 obtain ⟨st, g0, g1, g2, e, h, ok, pl, pt, wt, en⟩ := r
 dsimp only at hs hc ⊢
 subst hs
 generalize s.m.load th 0 = m' at *
 generalize s.m.word 0 = w at *
 by_cases h1 : w ≤ c.t
 · rw [if_pos h1] at hn
   subst hn
   refine lspec tab_ok mix Tryz.func55 (by kernel_rfl) (by rfl) (by rfl) (by rfl) (by rfl) ?_
   (refine go ?_; try exact True.intro)
   refine callL hc [some 0, some 1, some 2, some 3, some 4, some 5] [] rfl (go ?_)
   rw [decide_eq_true h1]
   (refine go ?_; try exact True.intro)
   refine .mk [(6, 2048)] (go ?_); try exact True.intro
 · rw [if_neg h1] at hn
   subst hn
   refine lspec tab_ok mix Tryz.func55 (by kernel_rfl) (by rfl) (by rfl) (by rfl) (by rfl) ?_
   (refine go ?_; try exact True.intro)
   refine callL hc [some 0, some 1, some 2, some 3, some 4, some 5] [] rfl (go ?_)
   rw [decide_eq_false h1]
   (refine go ?_; try exact True.intro)
   refine .mk [(6, 2048)] (go ?_); try exact True.intro
theorem rS_undo (th : Int) (c : Cl) (r : RI) (s : Sto) (hs : r.st = 31) (hm : 4 ≤ s.m.mtx.length) (ht : s.m.Thr) (h0 : 0 ≤ th) (hf : s.Fits) :
 RStep th c r s false { r with st := 4, h0 := false, pt := false, wt := false } { s with m := (s.m.unlock th 0).1 } := by
 have hc := rUnlockC' th c { r with pt := false, wt := false } s 0 (by omega) hm ht h0 hf
 obtain ⟨st, g0, g1, g2, e, h, ok, pl, pt, wt, en⟩ := r
 dsimp only at hs hc ⊢
 subst hs
 generalize (s.m.unlock th 0).1 = m' at *
 refine lspec tab_ok mix Tryz.func55 (by kernel_rfl) (by rfl) (by rfl) (by rfl) (by rfl) ?_
 (refine go ?_; try exact True.intro)
 refine callL hc [some 0, some 1, some 2, some 3, some 4, some 5] [] rfl (go ?_)
 refine .mk [(6, 1856)] (go ?_); try exact True.intro
theorem rS_choose (th : Int) (c : Cl) (r : RI) (s s' : Sto) (z : Bool) (hs : r.st = 5) (ha : LSpec Tryz.prog 93 [.p 0 10 0 0, V.int th, V.int c.t] (rstoB s 2) 5 (V.bool z) (rstoB s' 2) 5) (n : Int) (hn : n = if z = true then 7 else 6) :
 RStep th c r s false { r with st := n, pt := false, wt := false } s' := by
 obtain ⟨st, g0, g1, g2, e, h, ok, pl, pt, wt, en⟩ := r
 dsimp only at hs ⊢
 subst hs
 cases z with
 | true =>
  rw [if_pos rfl] at hn
  subst hn
  refine lspec tab_ok mix Tryz.func55 (by kernel_rfl) (by rfl) (by rfl) (by rfl) (by rfl) ?_
  (refine go ?_; try exact True.intro)
  refine dcallL ha [some 1, some 2, some 3, some 4, some 5] [] (go ?_)
  refine .mk [(6, 3)] (go ?_); try exact True.intro
 | false =>
  rw [if_neg Bool.false_ne_true] at hn
  subst hn
  refine lspec tab_ok mix Tryz.func55 (by kernel_rfl) (by rfl) (by rfl) (by rfl) (by rfl) ?_
  (refine go ?_; try exact True.intro)
  refine dcallL ha [some 1, some 2, some 3, some 4, some 5] [] (go ?_)
  refine .mk [(6, 3)] (go ?_); try exact True.intro
theorem rS_alloc (th : Int) (c : Cl) (r : RI) (s s' : Sto) (h' : Int) (hs : r.st = 8) (ha : LSpec Tryz.prog 94 [.p 0 10 0 0, V.int th, V.int c.t] (rstoB s 2) 5 (.tup [V.int h', V.bool true]) (rstoB s' 5) 6) :
 RStep th c r s false { r with st := 9, e := 0, h := h', ok := true, pt := true, wt := false } s' := by
 obtain ⟨st, g0, g1, g2, e, h, ok, pl, pt, wt, en⟩ := r
 dsimp only at hs ⊢
 subst hs
 refine lspec tab_ok mix Tryz.func55 (by kernel_rfl) (by rfl) (by rfl) (by rfl) (by rfl) ?_
 (refine go ?_; try exact True.intro)
 refine dcallL ha [some 1, some 2, some 3, some 4, some 5] [] (go ?_)
 refine .mk [(6, 3008)] (go ?_); try exact True.intro
theorem rS_full (th : Int) (c : Cl) (r : RI) (s s' : Sto) (hs : r.st = 8) (ha : LSpec Tryz.prog 94 [.p 0 10 0 0, V.int th, V.int c.t] (rstoB s 2) 5 (.tup [V.int 0, V.bool false]) (rstoB s' 5) 6) :
 RStep th c r s false { r with st := 9, e := 10, h := 0, ok := false, pt := true, wt := false } s' := by
 obtain ⟨st, g0, g1, g2, e, h, ok, pl, pt, wt, en⟩ := r
 dsimp only at hs ⊢
 subst hs
 refine lspec tab_ok mix Tryz.func55 (by kernel_rfl) (by rfl) (by rfl) (by rfl) (by rfl) ?_
 (refine go ?_; try exact True.intro)
 refine dcallL ha [some 1, some 2, some 3, some 4, some 5] [] (go ?_)
 refine .mk [(6, 3008)] (go ?_); try exact True.intro
theorem rS_leave (th : Int) (c : Cl) (r : RI) (s : Sto) (hs : r.st = 9) (hm : 4 ≤ s.m.mtx.length) (ht : s.m.Thr) (h0 : 0 ≤ th) (hf : s.Fits) :
 RStep th c r s false { r with st := 10, pt := false, wt := false } { s with m := (s.m.unlock th 3).1 } := by
 have hc := rUnlockC' th c { r with pt := false, wt := false } s 3 (by omega) hm ht h0 hf
 obtain ⟨st, g0, g1, g2, e, h, ok, pl, pt, wt, en⟩ := r
 dsimp only at hs hc ⊢
 subst hs
 generalize (s.m.unlock th 3).1 = m' at *
 refine lspec tab_ok mix Tryz.func55 (by kernel_rfl) (by rfl) (by rfl) (by rfl) (by rfl) ?_
 (refine go ?_; try exact True.intro)
 refine callL hc [some 0, some 1, some 2, some 3, some 4, some 5] [] rfl (go ?_)
 refine .mk [(6, 2624)] (go ?_); try exact True.intro
theorem rS_rel (th : Int) (c : Cl) (r r' : RI) (s s' : Sto) (z : Bool) (hs : r.st = 10) (hc : LSpec Tryz.prog 95 [.p 0 20 0 0] (rI0 th c { r with pt := false, wt := false } s 3) 6 (V.bool z) (rI0 th c r' s' 6) 7) :
 RStep th c r s z r' s' := by
 obtain ⟨st, g0, g1, g2, e, h, ok, pl, pt, wt, en⟩ := r
 dsimp only at hs hc ⊢
 subst hs
 refine lspec tab_ok mix Tryz.func55 (by kernel_rfl) (by rfl) (by rfl) (by rfl) (by rfl) ?_
 (refine go ?_; try exact True.intro)
 refine callL hc [some 0, some 1, some 2, some 3, some 4, some 5] [] rfl (go ?_)
 refine .mk [(6, 2624)] (go ?_); try exact True.intro
end Go.Proofs.YtcffiehcdadimaaGreat.Abs
/- Insertions: a step of the reference's call in order; what calls show. -/
namespace Go.Proofs.YtcffiehcdadimaaGreat.Abs
open Go.Proofs
set_option maxRecDepth 10000
set_option linter.unusedSimpArgs false
set_option linter.unusedVariables false
def stN (pc : PC) (e : Int) : Int :=
 match pc with
 | .ret => if e = 1 then 1 else 10
 | .start => 1
 | .top => 2
 | .conf => 3
 | .undo => 31
 | .rungs => 4
 | .choose => 5
 | .bottom => 6
 | .arena => 7
 | .alloc => 8
 | .leave => 9
 | .put => 10
 | .rel => 10
def plN (pc : PC) (ok : Bool) : Bool :=
 match pc with
 | .ret => ok
 | .rel => ok
 | _ => false
def IOp.ri (o : IOp) : RI := ⟨stN o.pc o.e, decide ((0 : Int) ∈ hdL o.hd), decide ((1 : Int) ∈ hdL o.hd), decide ((2 : Int) ∈ hdL o.hd), o.e, o.h, o.ok, plN o.pc o.ok, o.eff, o.blk, isRet o.pc⟩
theorem SB.putF {n : Nat} {s : Sto} {S : List Item} {A : Nat → Prop} {K : Nat} (h : SB n s S A K) (ht : s.m.Thr) (th : Int) (i : Nat) : (s.put th i).Fits ∧ 4 ≤ (s.put th i).m.mtx.length ∧ (s.put th i).m.Thr := by
 have hf := h.fits
 have tt := touches_same th (s.putL (s.slot i).time) s.m
 have hpl : (s.putL (s.slot i).time).length ≤ 2 := by unfold Sto.putL; split; simp; split <;> simp
 have hv := h.viol
 have hkb := h.kb
 refine ⟨⟨⟨?_, ?_, ?_, ?_⟩, hf.slots, hf.idle, hf.next⟩, ?_, ?_⟩
 · show (s.m.touches th _).log.length < _; rw [tt.2.2.1]; exact hf.mem.log
 · show 0 ≤ (s.m.touches th _).viol ∧ (s.m.touches th _).viol < _; omega
 · show (s.m.touches th _).words.length < _; rw [tt.1]; exact hf.mem.words
 · show (s.m.touches th _).mtx.length < _; rw [tt.2.1]; exact hf.mem.mtx
 · show 4 ≤ (s.m.touches th _).mtx.length; rw [tt.2.1, h.nm]; exact Nat.le_refl _
 · intro j hj
   have e : (s.put th i).m.held j = s.m.held j := by
    show ((s.m.touches th _).mtx[j]?).getD _ = _
    rw [tt.2.1]; rfl
   rw [e] at hj ⊢
   exact ht j hj
theorem rIStepC {n : Nat} {s : Sto} {S : List Item} {A : Nat → Prop} {K : Nat} (h : SB n s S A K) (hK : K + 1 ≤ 20000) (ht : s.m.Thr) {o : IOp} (ho : IOk n A o) (c : Cl) (hc : c.t = o.t) :
 RStep o.th c o.ri s (o.step s).1.done (o.step s).1.ri (o.step s).2 := by
 have hf := h.fits
 have hm : 4 ≤ s.m.mtx.length := by rw [h.nm]; exact Nat.le_refl _
 have hw : 0 < s.m.words.length := by rw [h.nw]; omega
 obtain ⟨shp, th0, early, tm, full, won, hand⟩ := ho
 obtain ⟨th, t, pc, hd, hh, e, ok, ef, bl⟩ := o
 dsimp only at shp th0 early tm full won hand hc
 subst hc
 have lock : ∀ (i : Nat) (p n : PC), p.mx = some (i, n) → i < 4 → pc = p → plN n ok = false → plN p ok = false →
  ({ ((IOp.ri ⟨th, c.t, p, hd, hh, e, ok, ef, bl⟩).hold i true) with st := stN n e, pt := false, wt := false } : RI) = (IOp.ri { (⟨th, c.t, p, hd, hh, e, ok, ef, bl⟩ : IOp) with pc := n, hd := if i = 3 then hd else hdPush hd i, eff := false, blk := false }) →
  RStep th c (IOp.ri ⟨th, c.t, pc, hd, hh, e, ok, ef, bl⟩) s ((IOp.lock ⟨th, c.t, pc, hd, hh, e, ok, ef, bl⟩ s i n).1.done) (IOp.lock ⟨th, c.t, pc, hd, hh, e, ok, ef, bl⟩ s i n).1.ri (IOp.lock ⟨th, c.t, pc, hd, hh, e, ok, ef, bl⟩ s i n).2 := by
  rintro i p n hmx hi rfl hpl hpl2 heq
  unfold IOp.lock
  dsimp only
  have hst : (stN pc e = 2 ∧ i = 0 ∧ stN n e = 3) ∨ (stN pc e = 4 ∧ i = 1 ∧ stN n e = 5) ∨ (stN pc e = 6 ∧ i = 2 ∧ stN n e = 7) ∨ (stN pc e = 7 ∧ i = 3 ∧ stN n e = 8) := by
   rcases pc_mx hmx with ⟨rfl, rfl, rfl⟩ | ⟨rfl, rfl, rfl⟩ | ⟨rfl, rfl, rfl⟩ | ⟨rfl, rfl, rfl⟩ <;> simp [stN]
  by_cases hl : (s.m.lock th i).2 = true
  · rw [if_pos hl]
    have h1 := rLockOk th c { (IOp.ri ⟨th, c.t, pc, hd, hh, e, ok, ef, bl⟩) with pt := false, wt := false } s i (stN n e) hi hm ht th0 hf hl
    have h2 := rS_lock th c (IOp.ri ⟨th, c.t, pc, hd, hh, e, ok, ef, bl⟩) _ s _ (stN pc e) i (stN n e) hst h1
    have e2 : ({ ({ (IOp.ri ⟨th, c.t, pc, hd, hh, e, ok, ef, bl⟩) with pt := false, wt := false } : RI).hold i true with st := stN n e } : RI) = { ((IOp.ri ⟨th, c.t, pc, hd, hh, e, ok, ef, bl⟩).hold i true) with st := stN n e, pt := false, wt := false } := by
     rcases (show i = 0 ∨ i = 1 ∨ i = 2 ∨ i = 3 by omega) with rfl | rfl | rfl | rfl <;> rfl
    rw [e2, heq] at h2
    rcases pc_mx hmx with ⟨rfl, rfl, rfl⟩ | ⟨rfl, rfl, rfl⟩ | ⟨rfl, rfl, rfl⟩ | ⟨rfl, rfl, rfl⟩ <;> exact h2
  · rw [if_neg hl]
    have hl : (s.m.lock th i).2 = false := by simpa using hl
    have h1 := rLockNo th c { (IOp.ri ⟨th, c.t, pc, hd, hh, e, ok, ef, bl⟩) with pt := false, wt := false } s i (stN n e) hi hm ht th0 hf hl
    have h2 := rS_lock th c (IOp.ri ⟨th, c.t, pc, hd, hh, e, ok, ef, bl⟩) _ s _ (stN pc e) i (stN n e) hst h1
    rcases pc_mx hmx with ⟨rfl, rfl, rfl⟩ | ⟨rfl, rfl, rfl⟩ | ⟨rfl, rfl, rfl⟩ | ⟨rfl, rfl, rfl⟩ <;> exact h2
 have alloc : pc = .alloc → ok = false → ∀ l k, hd = some (l, k) → RStep th c (IOp.ri ⟨th, c.t, pc, hd, hh, e, ok, ef, bl⟩) s (IOp.step ⟨th, c.t, pc, hd, hh, e, ok, ef, bl⟩ s).1.done (IOp.step ⟨th, c.t, pc, hd, hh, e, ok, ef, bl⟩ s).1.ri (IOp.step ⟨th, c.t, pc, hd, hh, e, ok, ef, bl⟩ s).2 := by
  rintro rfl rfl l k rfl
  obtain ⟨_, rfl, rfl⟩ := early rfl
  have ha := (h.alloc2 ht th c.t th0).2
  show RStep th c _ s (if (s.allocF th c.t).2.2 = true then _ else _ : IOp × Sto).1.done (if (s.allocF th c.t).2.2 = true then _ else _ : IOp × Sto).1.ri (if (s.allocF th c.t).2.2 = true then _ else _ : IOp × Sto).2
  cases hz : (s.allocF th c.t).2.2 with
  | true =>
   rw [if_pos rfl]
   rw [hz] at ha
   exact rS_alloc th c _ s _ _ rfl ha
  | false =>
   rw [if_neg Bool.false_ne_true]
   rw [hz] at ha
   have h0 : (s.allocF th c.t).2.1 = 0 := by
    unfold Sto.allocF at hz ⊢
    split at hz
    · rfl
    · cases hz
   rw [h0] at ha
   exact rS_full th c _ s _ rfl ha
 cases shp with
 | start =>
  obtain ⟨rfl, rfl, rfl⟩ := early rfl
  by_cases hb : c.t < 0 ∨ 1152921504606846976 < c.t
  · have := rS_bad th c (IOp.ri ⟨th, c.t, .start, none, 0, 0, false, ef, bl⟩) s rfl hb
    unfold IOp.step
    dsimp only
    rw [if_pos hb]
    exact this
  · have := rS_start th c (IOp.ri ⟨th, c.t, .start, none, 0, 0, false, ef, bl⟩) s rfl hb hf hw _ rfl
    unfold IOp.step
    dsimp only
    rw [if_neg hb]
    dsimp only at this ⊢
    by_cases hc : s.m.word 0 ≤ c.t
    · rw [if_pos hc] at this ⊢; exact this
    · rw [if_neg hc] at this ⊢; exact this
 | top => exact lock 0 .top .conf rfl (by omega) rfl rfl rfl rfl
 | r0 => exact lock 1 .rungs .choose rfl (by omega) rfl rfl rfl rfl
 | r1 => exact lock 1 .rungs .choose rfl (by omega) rfl rfl rfl rfl
 | bottom => exact lock 2 .bottom .arena rfl (by omega) rfl rfl rfl rfl
 | a0 => exact lock 3 .arena .alloc rfl (by omega) rfl rfl rfl rfl
 | a1 => exact lock 3 .arena .alloc rfl (by omega) rfl rfl rfl rfl
 | a2 => exact lock 3 .arena .alloc rfl (by omega) rfl rfl rfl rfl
 | conf =>
  have := rS_conf th c (IOp.ri ⟨th, c.t, .conf, some ([0], 1), hh, e, ok, ef, bl⟩) s rfl hf hw _ rfl
  unfold IOp.step
  dsimp only at this ⊢
  by_cases hc : s.m.word 0 ≤ c.t
  · rw [if_pos hc] at this ⊢; exact this
  · rw [if_neg hc] at this ⊢; exact this
 | undo => exact rS_undo th c (IOp.ri ⟨th, c.t, .undo, some ([0], 1), hh, e, ok, ef, bl⟩) s rfl hm ht th0 hf
 | choose =>
  have ha := (h.accepts2 ht th c.t th0).2
  have := rS_choose th c (IOp.ri ⟨th, c.t, .choose, some ([1], 1), hh, e, ok, ef, bl⟩) s _ _ rfl ha _ rfl
  unfold IOp.step
  dsimp only at this ⊢
  cases hc : (s.accepts th c.t).2 with
  | true => rw [hc, if_pos rfl] at this; rw [if_pos rfl]; exact this
  | false => rw [hc, if_neg Bool.false_ne_true] at this; rw [if_neg Bool.false_ne_true]; exact this
 | l0 => exact alloc rfl (early rfl).1 _ _ rfl
 | l1 => exact alloc rfl (early rfl).1 _ _ rfl
 | l2 => exact alloc rfl (early rfl).1 _ _ rfl
 | v0 => exact rS_leave th c (IOp.ri ⟨th, c.t, .leave, some ([0], 1), hh, e, ok, ef, bl⟩) s rfl hm ht th0 hf
 | v1 => exact rS_leave th c (IOp.ri ⟨th, c.t, .leave, some ([1], 1), hh, e, ok, ef, bl⟩) s rfl hm ht th0 hf
 | v2 => exact rS_leave th c (IOp.ri ⟨th, c.t, .leave, some ([1, 2], 2), hh, e, ok, ef, bl⟩) s rfl hm ht th0 hf
 | p0 =>
  cases ok with
  | false =>
   obtain ⟨rfl, rfl⟩ := full rfl rfl
   exact rS_rel th c (IOp.ri ⟨th, c.t, .put, some ([0], 1), 0, 10, false, ef, bl⟩) _ s _ _ rfl (rRel_tn th c 10 0 false false false s hm ht th0 hf)
  | true =>
   obtain rfl := won rfl
   obtain ⟨x, hx, hs, ha⟩ := hand rfl (.inr rfl)
   obtain ⟨f1, f2, f3⟩ := h.putF ht th x
   have hp := (h.put2 ht th th0 ha hK).2
   have := rS_rel th c (IOp.ri ⟨th, c.t, .put, some ([0], 1), hh, 0, true, ef, bl⟩) _ s _ _ rfl (rRel_tp th c 0 hh false false false s _ hs hp f2 f3 th0 f1)
   rw [← show (slotH hh).toNat = x by omega] at this
   exact this
 | p1 =>
  cases ok with
  | false =>
   obtain ⟨rfl, rfl⟩ := full rfl rfl
   exact rS_rel th c (IOp.ri ⟨th, c.t, .put, some ([1], 1), 0, 10, false, ef, bl⟩) _ s _ _ rfl (rRel_rn th c 10 0 false false false s hm ht th0 hf)
  | true =>
   obtain rfl := won rfl
   obtain ⟨x, hx, hs, ha⟩ := hand rfl (.inr rfl)
   obtain ⟨f1, f2, f3⟩ := h.putF ht th x
   have hp := (h.put2 ht th th0 ha hK).2
   have := rS_rel th c (IOp.ri ⟨th, c.t, .put, some ([1], 1), hh, 0, true, ef, bl⟩) _ s _ _ rfl (rRel_rp th c 0 hh false false false s _ hs hp f2 f3 th0 f1)
   rw [← show (slotH hh).toNat = x by omega] at this
   exact this
 | p2 =>
  cases ok with
  | false =>
   obtain ⟨rfl, rfl⟩ := full rfl rfl
   exact rS_rel th c (IOp.ri ⟨th, c.t, .put, some ([1, 2], 2), 0, 10, false, ef, bl⟩) _ s _ _ rfl (rRel_bn th c 10 0 false false false s hm ht th0 hf)
  | true =>
   obtain rfl := won rfl
   obtain ⟨x, hx, hs, ha⟩ := hand rfl (.inr rfl)
   obtain ⟨f1, f2, f3⟩ := h.putF ht th x
   have hp := (h.put2 ht th th0 ha hK).2
   have := rS_rel th c (IOp.ri ⟨th, c.t, .put, some ([1, 2], 2), hh, 0, true, ef, bl⟩) _ s _ _ rfl (rRel_bp th c 0 hh false false false s _ hs hp f2 f3 th0 f1)
   rw [← show (slotH hh).toNat = x by omega] at this
   exact this
 | rel =>
  cases ok with
  | false =>
   obtain ⟨rfl, rfl⟩ := full rfl rfl
   exact rS_rel th c (IOp.ri ⟨th, c.t, .rel, some ([1, 2], 1), 0, 10, false, ef, bl⟩) _ s _ _ rfl (rRel_rn th c 10 0 false false false s hm ht th0 hf)
  | true =>
   obtain rfl := won rfl
   exact rS_rel th c (IOp.ri ⟨th, c.t, .rel, some ([1, 2], 1), hh, 0, true, ef, bl⟩) _ s _ _ rfl (rRel_rl th c 0 hh false false false s hm ht th0 hf)
theorem iNewC (s : Sto) (th : Int) (c : Cl) : LSpec Tryz.prog 46 [.p 0 10 0 0, V.int th, c.v] (stoB s 2) 5 (.p 5 16 0 0) (stoB s 2 ++ [(5, opR (.new th c.t) 0 fun i => 5 + i)]) 17 := by
 refine lspec tab_ok mix Tryz.func46 (by kernel_rfl) (by rfl) (by rfl) (by rfl) (by rfl) ?_
 (refine go ?_; try exact True.intro)
 refine .mk [(5, 512)] (go ?_); try exact True.intro
theorem rINewC (s : Sto) (th : Int) (c : Cl) : LSpec Tryz.prog 54 [.p 0 10 0 0, V.int th, c.v] (rstoB s 2) 5 (.p 5 20 0 0) (rstoB s 2 ++ [(5, rI 0 th c (IOp.ri (.new th c.t)))]) 6 := by
 refine lspec tab_ok mix Tryz.func54 (by kernel_rfl) (by rfl) (by rfl) (by rfl) (by rfl) ?_
 (refine go ?_; try exact True.intro)
 refine .mk [(5, 448)] (go ?_); try exact True.intro
end Go.Proofs.YtcffiehcdadimaaGreat.Abs
