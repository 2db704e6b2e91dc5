/- law13: the fixed example. -/
import Derived.Test.YtcffiehcdadimaaGreatJB
namespace Go.Proofs.YtcffiehcdadimaaGreat.Abs
open Go.Proofs
set_option maxRecDepth 10000
set_option linter.unusedSimpArgs false
set_option linter.unusedVariables false
set_option maxHeartbeats 4000000 in
theorem head13_aux (s s1 s2 s3 : Sto) (c1 c2 p1 q1 : COp) (S : List Item) (x0 x1 : Slt) (hp : LSpec Tryz.prog 14 [V.int 2, opsSV [⟨0, 5, true⟩]] [] 0 (.tup [.p 0 10 0 0, .p 5 10 0 0]) (stoB s 2 ++ rstoAt s 5 7) 10)
    (a1 : LSpec Tryz.prog 20 [.p 0 10 0 0] (copB ⟨1, 0, 0, 0, false, false⟩ s 3) 6 (V.bool false) (copB c1 s1 6) 7) (e1 : c1.ph ≠ 2)
    (a2 : LSpec Tryz.prog 20 [.p 0 10 0 0] (copB c1 s1 3) 6 (V.bool true) (copB c2 s2 6) 7) (e2 : c2.ph = 2 ∧ c2.done = true)
    (a3 : LSpec Tryz.prog 20 [.p 0 10 0 0] (copB ⟨2, 0, 0, 0, false, false⟩ s2 3) 6 (V.bool true) (copB p1 s3 6) 7) (e3 : p1.done = false)
    (a4 : LSpec Tryz.prog 20 [.p 0 10 0 0] (copB ⟨2, -1, 0, 0, false, false⟩ s3 3) 6 (V.bool true) (copB q1 s3 6) 7) (e4 : q1.ph = 2 ∧ q1.done = false)
    (a5 : LSpec Tryz.prog 18 [.p 0 10 0 0] (stoB s3 2) 5 (arenaV [x0, x1] s3.idle s3.next) (stoB s3 2) 5) (e5 : x0.state = 3)
    (a6 : LSpec Tryz.prog 22 [.p 0 10 0 0] (stoB s3 2) 5 (itemsV S) (stoB s3 2) 5) (e6 : S.length = 1) :
    PSpec Tryz.prog 13 [] (V.bool true) := by
  refine pspec tab_ok mix Tryz.func13 (by kernel_rfl) rfl rfl ?_
  (refine go ?_; try exact True.intro)
  refine callL hp [] [] rfl ?_
  (refine go ?_; try exact True.intro)
  refine callL (cNewC s 1 0 2 0 0 0) [some 192, some 193, some 194, some 195, some 196] [] rfl ?_
  (refine go ?_; try exact True.intro)
  refine callL (cNewC s 2 0 2 0 0 0) [some 192, some 193, some 194, some 195, some 196] [] rfl ?_
  (refine go ?_; try exact True.intro)
  refine callL (cNewC s 2 (-1) 2 0 0 0) [some 192, some 193, some 194, some 195, some 196] [] rfl ?_
  (refine go ?_; try exact True.intro)
  refine callL a1 [some 832, some 192, some 193, some 194, some 195, some 196] [] rfl ?_
  (refine go ?_; try exact True.intro)
  have rr := cEffectC c1 s1
  rw [decide_eq_false e1] at rr
  refine callL rr [some 832, some 192, some 193, some 2176, some 195, some 196] [] rfl ?_
  clear rr
  (refine go ?_; try exact True.intro)
  refine callL a2 [some 832, some 192, some 193, some 2176, some 195, some 196] [] rfl ?_
  (refine go ?_; try exact True.intro)
  have rr := cEffectC c2 s2
  rw [decide_eq_true e2.1] at rr
  refine callL rr [some 832, some 192, some 193, some 2560, some 195, some 196] [] rfl ?_
  clear rr
  (refine go ?_; try exact True.intro)
  refine callL a3 [some 1088, some 192, some 193, some 2560, some 195, some 196] [] rfl ?_
  (refine go ?_; try exact True.intro)
  have rr := cResultC c2 s3
  rw [e2.2] at rr
  refine callL rr [some 832, some 192, some 193, some 2944, some 195, some 196] [] rfl ?_
  clear rr
  (refine go ?_; try exact True.intro)
  have rr := cResultC p1 s3
  rw [e3] at rr
  refine callL rr [some 1088, some 192, some 193, some 2944, some 195, some 196] [] rfl ?_
  clear rr
  (refine go ?_; try exact True.intro)
  refine callL a4 [some 1344, some 192, some 193, some 2944, some 195, some 196] [] rfl ?_
  (refine go ?_; try exact True.intro)
  have rr := cEffectC q1 s3
  rw [decide_eq_true e4.1] at rr
  refine callL rr [some 1344, some 192, some 193, some 4864, some 195, some 196] [] rfl ?_
  clear rr
  (refine go ?_; try exact True.intro)
  have rr := cResultC q1 s3
  rw [e4.2] at rr
  refine callL rr [some 1344, some 192, some 193, some 4864, some 195, some 196] [] rfl ?_
  clear rr
  (refine go ?_; try exact True.intro)
  refine callL a5 [some 192, some 193, some 4864, some 195, some 196] [] rfl ?_
  (refine go ?_; try exact True.intro)
  rw [decide_eq_true e5]
  (refine go ?_; try exact True.intro)
  refine callL a6 [some 192, some 193, some 4864, some 195, some 196] [] rfl ?_
  (refine go ?_; try exact True.intro)
  rw [decide_eq_true (show ((S.map Item.row).length : Int) = 1 by rw [List.length_map, e6]; rfl)]
  (refine go ?_; try exact True.intro)
  exact .same rfl
theorem SB.wds {n : Nat} {s : Sto} {S : List Item} {A : Nat → Prop} {K : Nat} (h : SB n s S A K) : Wds s (4 * K + 3) := by
  have hk := h.kb
  refine ⟨h.fits, by rw [h.nw, h.ns], fun p hp => ?_, by omega⟩
  have h1 := h.wd p (by rw [← h.ns]; exact hp)
  unfold Sto.gn at h1
  omega
theorem Shown.of {s t : Sto} {S : List Item} (h : Shown s S) {B : Int} (hw : Wds t B) (hq : t.q = s.q) : Shown t S := by
  have hbd := hw.bd
  exact ⟨hw.fits, by rw [hw.lt]; omega, fun p hp => by have := hw.wd p hp; omega, by rw [hq]; exact h.small, by rw [hq]; exact h.le, by rw [hq]; exact h.srt⟩
theorem cStep_load {c : COp} {s : Sto} (h : c.has s) (hp : c.ph ≠ 1) : (cStep c s).1 = c.cl.load (s.m.word (c.sl + 1)) := by
  unfold cStep; rw [if_pos h, if_neg hp]
theorem cStep_swap {c : COp} {s : Sto} (h : c.has s) (hp : c.ph = 1) : (cStep c s).1 = c.cl.swap (decide (s.m.word (c.sl + 1) = c.seen)) := by
  unfold cStep; rw [if_pos h, if_pos hp]
theorem cStep_none {c : COp} {s : Sto} (h : ¬ c.has s) : cStep c s = ({ c.cl with ph := 2 }, s) := by
  unfold cStep; rw [if_neg h]
/-- the store of the example -/
def ex13 : Sto := { (heldN 2 4).alloc1 0 5 [1] 0 with q := insLad (heldN 2 4).q (((heldN 2 4).alloc1 0 5 [1] 0).item 0) }
theorem head13C : PSpec Tryz.prog 13 [] (V.bool true) := by
  have hn : 1 ≤ 2 ∧ 2 ≤ 12 := by decide
  obtain ⟨hb, ha, hv⟩ := heldN_ok (n := 2) hn (i := 4) (by decide)
  have hh : (heldN 2 4).all4 0 := fun i hi => by rw [ha i hi, if_pos hi]
  have hl : ∀ o ∈ [(⟨0, 5, true⟩ : OpS)], o.Ok := fun o ho => by rw [List.mem_singleton] at ho; subst ho; exact ⟨by decide, by decide⟩
  have hid : (heldN 2 4).idle = [1] ++ [((0 : Nat) : Int)] := rfl
  have h0 : (heldN 2 4).st 0 = 0 := by rw [Sto.st, show (heldN 2 4).m.word (0 + 1) = 0 from rfl]; rfl
  obtain ⟨⟨hr, hnc⟩, T, hst⟩ := refer0L hb (by decide) hh ⟨0, 5, true⟩ (hl _ (by simp)) (.inl rfl) hid (by decide) h0
  have ho : (⟨0, 5, true⟩ : OpS).time = 5 := rfl
  rw [ho] at hr hst hnc
  have hex : { (heldN 2 4).alloc1 0 5 [1] 0 with q := insLad (heldN 2 4).q (((heldN 2 4).alloc1 0 5 [1] 0).item 0) } = ex13 := rfl
  rw [hex] at hr hst hnc
  have hr1 := (runOk_zero hn [(⟨0, 5, true⟩ : OpS)]).next (show 0 < 1 by decide) hst
  have hp := preparedG hn [(⟨0, 5, true⟩ : OpS)] (fun i => if i = 0 then (heldN 2 4, []) else (ex13, T)) rfl
    (fun i h1 h2 => by
      have h1 : i ≤ 1 := h1
      rcases (show i = 0 ∨ i = 1 by omega) with rfl | rfl
      · exact runOk_zero hn _
      · exact hr1)
    (fun i h1 h2 o hoo => by
      have h1 : i < 1 := h1
      obtain rfl : i = 0 := by omega
      cases hoo
      exact ⟨_, hr⟩)
  have hm : min ([(⟨0, 5, true⟩ : OpS)]).length 60 = 1 := rfl
  rw [hm] at hp
  have hrd := ready_of hr1.ok (by show 4 * (0 + 1) ≤ 240; decide) hr1.held hr1.viol (fun i hi hx => by
    have h9 := hnc i hi hx
    rcases (show i = 0 ∨ i = 1 by omega) with rfl | rfl
    · rw [h0] at h9; cases h9
    · rw [Sto.st, show (heldN 2 4).m.word (1 + 1) = 0 from rfl] at h9; cases h9)
  have hw1 : (unlockN ex13.m 4).word 1 = 1 := by
    unfold Mem.word
    rw [(unlockN_all hst.ok.nm hst.held 4 (by decide)).1]
    rfl
  have hsl : ex13.slots.length = 2 := hst.ok.ns
  have hq : (if (1 : Nat) = 0 then (heldN 2 4, ([] : List Item)) else (ex13, T)) = (ex13, T) := rfl
  rw [hq] at hp
  dsimp only at hp hrd
  have hw2 : (unlockN ex13.m 4).word 2 = 0 := by
    unfold Mem.word
    rw [(unlockN_all hst.ok.nm hst.held 4 (by decide)).1]
    rfl
  generalize hs : ({ ex13 with m := unlockN ex13.m 4 } : Sto) = s at *
  have hW1 : s.m.word 1 = 1 := by rw [← hs]; exact hw1
  have hW2 : s.m.word 2 = 0 := by rw [← hs]; exact hw2
  have hS : T.length = 1 := by
    rw [hrd.ok.toSOk.items_len, hrd.ok.toSOk.live_eq]
    have e0 : s.st 0 = 1 := by rw [Sto.st, show s.m.word (0 + 1) = 1 from hW1]; rfl
    have e1 : s.st 1 = 0 := by rw [Sto.st, show s.m.word (1 + 1) = 0 from hW2]; rfl
    simp [List.range, List.range.loop, e0, e1]
  have hns : s.slots.length = 2 := hrd.ok.ns
  have hl9 := hrd.ok.log
  have hw := hrd.ok.wds
  have hsh := hrd.ok.shown
  clear hs hw1 hw2 hr hnc hst hr1 hb ha hh hv
  -- the first step
  have hc0 : COk ⟨1, 0, 0, 0, false, false⟩ (4 * (241 : Nat) + 3) := ⟨fun x => (by cases x), fun x => (by cases x)⟩
  have has0 : ∀ {c : COp} {t : Sto}, c.h = 0 → t.slots.length = 2 → c.has t ∧ c.sl = 0 := fun {c t} hc ht => by
    unfold COp.has COp.sl
    rw [hc, ht]
    decide
  obtain ⟨k1, k2⟩ := has0 (c := ⟨1, 0, 0, 0, false, false⟩) rfl hns
  have a1 := cStepC ⟨1, 0, 0, 0, false, false⟩ s hw hc0
  have b1 := cStep_load k1 (show (0 : Int) ≠ 1 by decide)
  rw [k2, hW1, show (COp.cl ⟨1, 0, 0, 0, false, false⟩).load 1 = ⟨1, 0, 1, 1, false, false⟩ from rfl] at b1
  have w1 := hw.step hc0 (by decide) (by omega)
  have c1 := cStep_word ⟨1, 0, 0, 0, false, false⟩ s hw.lt 1
  rw [if_neg (fun x => by cases x.2.1), hW1] at c1
  obtain ⟨_, _, d1, _, _, d2, _, _, _, _, d3⟩ := cStep_same ⟨1, 0, 0, 0, false, false⟩ s
  rw [b1] at a1
  generalize (cStep ⟨1, 0, 0, 0, false, false⟩ s).2 = s1 at *
  -- the second
  have hc1 : COk ⟨1, 0, 1, 1, false, false⟩ (4 * (241 : Nat) + 3) := ⟨fun _ => by decide, fun x => by cases x⟩
  obtain ⟨k3, k4⟩ := has0 (c := ⟨1, 0, 1, 1, false, false⟩) rfl (d1 ▸ hns)
  have a2 := cStepC ⟨1, 0, 1, 1, false, false⟩ s1 w1 hc1
  have b2 := cStep_swap k3 rfl
  rw [k4, c1, show (COp.cl ⟨1, 0, 1, 1, false, false⟩).swap (decide ((1 : Int) = 1)) = ⟨1, 0, 2, 1, true, false⟩ from rfl] at b2
  have w2 := w1.step hc1 (by decide) (by omega)
  have c2 := cStep_word ⟨1, 0, 1, 1, false, false⟩ s1 w1.lt 1
  rw [if_pos ⟨k3, rfl, by rw [k4], by rw [k4]; exact c1⟩, show COp.new ⟨1, 0, 1, 1, false, false⟩ = 3 from rfl] at c2
  obtain ⟨_, _, d4, _, _, d5, _, _, _, _, d6⟩ := cStep_same ⟨1, 0, 1, 1, false, false⟩ s1
  rw [b2] at a2
  generalize (cStep ⟨1, 0, 1, 1, false, false⟩ s1).2 = s2 at *
  -- the third
  have hc2 : COk ⟨2, 0, 0, 0, false, false⟩ (4 * (241 : Nat) + 3) := ⟨fun x => (by cases x), fun x => (by cases x)⟩
  obtain ⟨k5, k6⟩ := has0 (c := ⟨2, 0, 0, 0, false, false⟩) rfl (d4 ▸ d1 ▸ hns)
  have a3 := cStepC ⟨2, 0, 0, 0, false, false⟩ s2 w2 hc2
  have b3 := cStep_load k5 (show (0 : Int) ≠ 1 by decide)
  rw [k6, c2, show (COp.cl ⟨2, 0, 0, 0, false, false⟩).load 3 = ⟨2, 0, 2, 3, false, false⟩ from rfl] at b3
  have w3 := w2.step hc2 (by decide) (by omega)
  have c3 := cStep_word ⟨2, 0, 0, 0, false, false⟩ s2 w2.lt 1
  rw [if_neg (fun x => by cases x.2.1), c2] at c3
  obtain ⟨_, _, d7, _, _, d8, _, _, _, _, d9⟩ := cStep_same ⟨2, 0, 0, 0, false, false⟩ s2
  rw [b3] at a3
  generalize (cStep ⟨2, 0, 0, 0, false, false⟩ s2).2 = s3 at *
  -- the fourth
  have hc3 : COk ⟨2, -1, 0, 0, false, false⟩ (4 * (241 : Nat) + 3) := ⟨fun x => (by cases x), fun x => (by cases x)⟩
  have a4 := cStepC ⟨2, -1, 0, 0, false, false⟩ s3 w3 hc3
  have b4 : cStep ⟨2, -1, 0, 0, false, false⟩ s3 = (⟨2, -1, 2, 0, false, false⟩, s3) := cStep_none (fun x => absurd x.1 (by decide))
  rw [b4] at a4
  have hsh3 := hsh.of w3 (by rw [d8, d5, d2])
  have hn3 : s3.slots.length = 2 := by rw [d7, d4, d1]; exact hns
  have a5 := hsh3.arena
  rw [show s3.pics = [s3.pic 0, s3.pic 1] by unfold Sto.pics; rw [hn3]; rfl] at a5
  exact head13_aux s s1 s2 s3 _ _ _ _ T _ _ hp a1 (by decide) a2 ⟨rfl, rfl⟩ a3 rfl a4 ⟨rfl, rfl⟩ a5 (by show s3.m.word 1 % 4 = 3; rw [c3]; rfl) hsh3.items hS
end Go.Proofs.YtcffiehcdadimaaGreat.Abs
/- The reference arena: what a handle refers to. -/
namespace Go.Proofs.YtcffiehcdadimaaGreat.Abs
open Go.Proofs
set_option maxRecDepth 10000
set_option linter.unusedSimpArgs false
set_option linter.unusedVariables false
theorem sizeC (c : Int) (h : 0 ≤ c ∧ c ≤ 255) : PSpec Tryz.prog 15 [.c (.int .u8 c)] (V.int (capN c)) := by
  have hc := capN_ok h.1
  refine pspec tab_ok mix Tryz.func15 (by kernel_rfl) rfl rfl ?_
  (refine go ?_; try exact True.intro)
  rw [hc.1]
  exact .same rfl
/-- the slot that a handle refers to -/
def findA (l : List Slt) (h : Int) : Option Nat :=
  if 0 ≤ slotH h ∧ slotH h < l.length ∧ ((l[(slotH h).toNat]?).getD slt0).gen = genH h ∧ ((l[(slotH h).toNat]?).getD slt0).state ≠ 0 then some (slotH h).toNat else none
theorem findA_no {l : List Slt} {h : Int} (hn : ¬ (0 ≤ slotH h ∧ slotH h < l.length)) : findA l h = none := if_neg fun x => hn ⟨x.1, x.2.1⟩
theorem findA_at {l : List Slt} {h : Int} {k : Nat} {x : Slt} (hk : slotH h = k) (hx : l[k]? = some x) : findA l h = if x.gen = genH h ∧ x.state ≠ 0 then some k else none := by
  have hl : k < l.length := (List.getElem?_eq_some_iff.1 hx).1
  unfold findA
  rw [hk, Int.toNat_natCast, hx, Option.getD_some]
  by_cases c : x.gen = genH h ∧ x.state ≠ 0
  · rw [if_pos c, if_pos ⟨by omega, by omega, c⟩]
  · rw [if_neg c, if_neg (fun y => c y.2.2)]
theorem findC (l : List Slt) (idle : List Int) (next h : Int) (hl : l.length < 1000000) : PSpec Tryz.prog 64 [arenaV l idle next, V.int h] (V.int (idxI (findA l h))) := by
  have hml : (l.map Slt.row).length = l.length := List.length_map ..
  by_cases hn : 0 ≤ slotH h ∧ slotH h < l.length
  · obtain ⟨k, hk⟩ : ∃ k : Nat, slotH h = k := ⟨(slotH h).toNat, by omega⟩
    have hkl : k < l.length := by omega
    obtain ⟨x, hx⟩ := get_lt hkl
    rw [findA_at hk hx]
    have hs := rSlotC h
    rw [hk] at hs
    refine pspec tab_ok mix Tryz.func64 (by kernel_rfl) rfl rfl ?_
    (refine go ?_; try exact True.intro)
    refine callB hs ?_
    (refine go ?_; try exact True.intro)
    rw [decide_eq_false (show ¬ (k : Int) < 0 by omega)]
    (refine go ?_; try exact True.intro)
    rw [decide_eq_false (show ¬ ((l.map Slt.row).length : Int) ≤ k by omega)]
    (refine go ?_; try exact True.intro)
    refine idxB hx ?_
    (refine go ?_; try exact True.intro)
    refine dcallB (rGenerationC h) ?_
    (refine go ?_; try exact True.intro)
    by_cases c : x.gen = genH h
    · rw [decide_eq_true c]
      (refine go ?_; try exact True.intro)
      refine idxB hx ?_
      (refine go ?_; try exact True.intro)
      by_cases d : x.state = 0
      · rw [decide_eq_true d]
        (refine go ?_; try exact True.intro)
        rw [if_neg (fun y => y.2 d)]
        exact .same rfl
      · rw [decide_eq_false d]
        (refine go ?_; try exact True.intro)
        rw [if_pos ⟨c, d⟩]
        exact .same rfl
    · rw [decide_eq_false c]
      (refine go ?_; try exact True.intro)
      rw [if_neg (fun y => c y.1)]
      exact .same rfl
  · rw [findA_no hn]
    have hs := rSlotC h
    generalize slotH h = k at *
    refine pspec tab_ok mix Tryz.func64 (by kernel_rfl) rfl rfl ?_
    (refine go ?_; try exact True.intro)
    refine callB hs ?_
    (refine go ?_; try exact True.intro)
    by_cases c : k < 0
    · rw [decide_eq_true c]
      (refine go ?_; try exact True.intro)
      exact .same rfl
    · rw [decide_eq_false c]
      (refine go ?_; try exact True.intro)
      rw [decide_eq_true (show ((l.map Slt.row).length : Int) ≤ k by omega)]
      (refine go ?_; try exact True.intro)
      exact .same rfl
theorem lookupNo (l : List Slt) (idle : List Int) (next h : Int) (hl : l.length < 1000000) (hf : findA l h = none) : PSpec Tryz.prog 17 [arenaV l idle next, V.int h] (.tup [slt0.v, V.bool false]) := by
  have hc := findC l idle next h hl
  rw [hf] at hc
  refine pspec tab_ok mix Tryz.func17 (by kernel_rfl) rfl rfl ?_
  (refine go ?_; try exact True.intro)
  refine callB hc ?_
  (refine go ?_; try exact True.intro)
  exact .same rfl
theorem lookupYes (l : List Slt) (idle : List Int) (next h : Int) (hl : l.length < 1000000) {k : Nat} {x : Slt} (hf : findA l h = some k) (hx : l[k]? = some x) : PSpec Tryz.prog 17 [arenaV l idle next, V.int h] (.tup [x.v, V.bool true]) := by
  have hc := findC l idle next h hl
  rw [hf] at hc
  refine pspec tab_ok mix Tryz.func17 (by kernel_rfl) rfl rfl ?_
  (refine go ?_; try exact True.intro)
  refine callB hc ?_
  (refine go ?_; try exact True.intro)
  rw [show decide (idxI (some k) < 0) = false from decide_eq_false (by show ¬ (k : Int) < 0; omega)]
  (refine go ?_; try exact True.intro)
  refine idxB hx ?_
  (refine go ?_; try exact True.intro)
  exact .same rfl
end Go.Proofs.YtcffiehcdadimaaGreat.Abs
/- Laws of cancellations: alone. -/
namespace Go.Proofs.YtcffiehcdadimaaGreat.Abs
open Go.Proofs
set_option maxRecDepth 10000
set_option linter.unusedSimpArgs false
set_option linter.unusedVariables false
theorem pics_get {s : Sto} {p : Nat} (h : p < s.slots.length) : s.pics[p]? = some (s.pic p) := by
  unfold Sto.pics
  rw [List.getElem?_map, List.getElem?_range h]; rfl
theorem Wds.put {s : Sto} {B : Int} (hw : Wds s B) (th kind : Int) (i : Nat) (v : Int) (ok : Bool) (hv : 0 ≤ v ∧ v ≤ B) (hi : i < s.slots.length) (hl : s.m.log.length + 1 < 1000000) : Wds { s with m := s.m.put th kind (i + 1) v ok } B := by
  have f := hw.fits
  refine ⟨⟨⟨by show (s.m.log ++ [_]).length < _; rw [List.length_append, List.length_singleton]; omega, f.mem.viol, by show (s.m.words.set _ _).length < _; rw [List.length_set]; exact f.mem.words, f.mem.mtx⟩, f.slots, f.idle, f.next⟩, by show (s.m.words.set _ _).length = _; rw [List.length_set]; exact hw.lt, fun p hp => ?_, hw.bd⟩
  show 0 ≤ (s.m.put th kind (i + 1) v ok).word (p + 1) ∧ (s.m.put th kind (i + 1) v ok).word (p + 1) ≤ B
  rw [Mem.word_put _ _ _ _ _ _ _ (by rw [hw.lt]; omega)]
  split
  · exact hv
  · exact hw.wd p hp
theorem Wds.mono {s : Sto} {B C : Int} (h : Wds s B) (hl : B ≤ C) (hc : C ≤ 4398046511104) : Wds s C :=
  ⟨h.fits, h.lt, fun p hp => by have := h.wd p hp; omega, hc⟩
def u8D (x : Int) : List D := [.c (.int .u8 x)]
def u8sV (l : List Int) : V := .lst 1 (l.map u8D) false
end Go.Proofs.YtcffiehcdadimaaGreat.Abs
