/- Laws of cancellations: waiting for a claimed slot. -/
import Derived.Test.YtcffiehcdadimaaGreatJC
namespace Go.Proofs.YtcffiehcdadimaaGreat.Abs
open Go.Proofs
set_option maxRecDepth 10000
set_option linter.unusedSimpArgs false
set_option linter.unusedVariables false
theorem slot_of {k : Nat} {g : Int} (hk : k < 64) (hg : 0 ≤ g ∧ g ≤ 1099511627776) : slotH (64 * g + k) = k ∧ genH (64 * g + k) = g := by
  unfold slotH genH
  rw [if_pos ⟨by omega, by omega⟩, if_pos ⟨by omega, by omega⟩]
  omega
/-- a cancellation that waits: rounds, store, call -/
structure Wait where
  i : Nat
  s : Sto
  c : COp
structure WaitOk (h : Int) (k : Nat) (g : Int) (n : Nat) (e : Nat) (L : Nat) (B : Int) (x : Wait) : Prop where
  i : x.i ≤ e
  wds : Wds x.s B
  len : x.s.slots.length = n
  word : x.s.m.word (k + 1) = 4 * g + 2
  log : x.s.m.log.length ≤ L + x.i
  th : x.c.th = 1
  h : x.c.h = h
  ph : x.c.ph = 0
  dn : x.c.done = false
theorem WaitOk.next {h : Int} {k : Nat} {g : Int} {n e L : Nat} {B : Int} {x : Wait} (hx : WaitOk h k g n e L B x) (hk : k < n) (hn : n ≤ 64) (hg : 0 ≤ g ∧ g ≤ 1099511627776) (hh : h = 64 * g + k) (hi : x.i < e) (hL : L + e < 999999) (hB : B % 4 = 3) :
    (cStep x.c x.s).1.ph = 0 ∧ (cStep x.c x.s).1.blk = true ∧ WaitOk h k g n e L B ⟨x.i + 1, (cStep x.c x.s).2, (cStep x.c x.s).1⟩ := by
  obtain ⟨h1, h2, h3, h4, h5, h6, h7, h8, h9⟩ := hx
  obtain ⟨q1, q2⟩ := slot_of (k := k) (by omega) hg
  rw [← hh] at q1 q2
  have hhas : x.c.has x.s := by unfold COp.has; rw [h7, q1, h3]; omega
  have hsl : x.c.sl = k := by unfold COp.sl; rw [h7, q1]; rfl
  have b1 := cStep_load hhas (by rw [h8]; decide)
  rw [hsl, h4] at b1
  have hsw : staleW (4 * g + 2) g = false := by
    unfold staleW
    rw [decide_eq_true (by omega), decide_eq_false (by omega), decide_eq_false (by omega)]; rfl
  have b2 : (cStep x.c x.s).1 = { x.c.cl with seen := 4 * g + 2, blk := true } := by
    rw [b1]; unfold COp.load
    rw [show (x.c.cl).h = x.c.h from rfl, h7, q2, hsw, if_neg (by decide), if_pos (by omega), ← h7]
    rfl
  have hc : COk x.c B := ⟨fun y => by omega, fun y => by rw [h9] at y; cases y⟩
  obtain ⟨d1, d2, d3, _, _, _, _, _, _, _, d4⟩ := cStep_same x.c x.s
  refine ⟨by rw [b2]; exact h8, by rw [b2], ⟨hi, h2.step hc hB (by omega), by dsimp only; rw [d3]; exact h3, ?_, by dsimp only; omega, by dsimp only; rw [d1]; exact h6, by dsimp only; rw [d2]; exact h7, by dsimp only; rw [b2]; exact h8, by dsimp only; rw [b2]; exact h9⟩⟩
  dsimp only
  rw [cStep_word _ _ h2.lt, if_neg (fun y => by have := y.2.1; omega)]
  exact h4
set_option maxHeartbeats 4000000 in
theorem cancelopWaits (c : Int) (hc : 0 ≤ c ∧ c ≤ 255) (l : List OpS) (hl : ∀ o ∈ l, o.Ok) (raw : Int) (wt : Int) (hwt : 0 ≤ wt ∧ wt ≤ 255) : PSpec Tryz.prog 5 [.c (.int .u8 c), opsSV l, V.int raw, .c (.int .u8 wt)] (V.bool true) := by
  obtain ⟨_, hn⟩ := capN_ok hc.1
  have hsz := sizeC c hc
  have hp := preparedC hn l hl
  have hr := prep_ready hn hl
  generalize prepS (capN c) l = s at *
  generalize (runF (capN c) l (min l.length 60)).2 = S at *
  generalize capN c = n at *
  have hw : Wds s 975 := hr.ok.wds.mono (by decide) (by decide)
  have hs := hr.ok.shown
  have hns := hr.ok.ns
  have hl9 := hr.ok.log
  have hpl := pics_len s
  obtain ⟨k1, k2, k3, k4⟩ := hndK_ok hn.1 raw
  generalize hndK n raw = k at *
  have hks : k < s.slots.length := by omega
  have hx := pics_get hks
  have hml : (s.pics.map Slt.row).length = n := by rw [List.length_map]; omega
  have hwk := hw.wd k hks
  refine pspec tab_ok mix Tryz.func5 (by kernel_rfl) rfl rfl ?_
  (refine go ?_; try exact True.intro)
  refine callB head13C ?_
  (refine go ?_; try exact True.intro)
  refine callB hsz ?_
  (refine go ?_; try exact True.intro)
  refine callL hp [] [] rfl ?_
  (refine go ?_; try exact True.intro)
  rw [k1]
  refine callL hs.arena [some 512, some 513, some 514, some 515, some 516] [] rfl ?_
  (refine go ?_; try exact True.intro)
  rw [hml, nself]
  (refine go ?_; try exact True.intro)
  refine idxB hx ?_
  (refine go ?_; try exact True.intro)
  have hst : (s.pic k).state = s.m.word (k + 1) % 4 := rfl
  have hgn : (s.pic k).gen = s.m.word (k + 1) / 4 := rfl
  by_cases h1 : (s.pic k).state = 1
  case neg =>
    rw [show (!decide ((s.pic k).state = 1)) = true by simp [h1]]
    (refine go ?_; try exact True.intro)
    exact .same rfl
  rw [show (!decide ((s.pic k).state = 1)) = false by simp [h1]]
  (refine go ?_; try exact True.intro)
  refine idxB hx ?_
  (refine go ?_; try exact True.intro)
  generalize hg : (s.pic k).gen = g at *
  have hg0 : 0 ≤ g ∧ g ≤ 241 := by have := hr.ok.wds.wd k hks; omega
  refine callL (memoryC s) [some 512, some 513, some 514, some 515, some 516] [] rfl ?_
  (refine go ?_; try exact True.intro)
  refine callB (rWordC g 2 ⟨⟨by omega, by omega⟩, by omega⟩) ?_
  (refine go ?_; try exact True.intro)
  have hwl := hw.lt
  have hst1 := storeC s.m 9 (k + 1) (4 * g + 2) (by omega) hw.fits.mem
  have hw1 := hw.put 9 4 k (4 * g + 2) true (by omega) hks (by omega)
  have hwd1 : (s.m.put 9 4 (k + 1) (4 * g + 2) true).word (k + 1) = 4 * g + 2 := by rw [Mem.word_put _ _ _ _ _ _ _ (by omega), if_pos rfl]
  rw [show s.m.store 9 (k + 1) (4 * g + 2) = s.m.put 9 4 (k + 1) (4 * g + 2) true from rfl] at hst1
  have hlg1 : (s.m.put 9 4 (k + 1) (4 * g + 2) true).log.length = s.m.log.length + 1 := by simp [Mem.put]
  have hns1 : ({ s with m := s.m.put 9 4 (k + 1) (4 * g + 2) true } : Sto).slots.length = n := by show s.slots.length = n; omega
  rw [show (1 + (k : Int)) = ((k + 1 : Nat) : Int) by omega]
  refine callL hst1 [some 513, some 514, some 515, some 516] [] rfl ?_
  (refine go ?_; try exact True.intro)
  refine callB (rMakeC k g ⟨by omega, by omega⟩) ?_
  (refine go ?_; try exact True.intro)
  refine callL (cNewC { s with m := s.m.put 9 4 (k + 1) (4 * g + 2) true } 1 (64 * g + k) 2 0 0 0) [some 512, some 513, some 3520, some 515, some 516] [] rfl ?_
  (refine go ?_; try exact True.intro)
  have hm := Int.tmod_nonneg (b := 30) hwt.1
  have hm2 := (tmod_bounds wt 30 (by omega)).2
  obtain ⟨e, he⟩ : ∃ e : Nat, wt.tmod 30 + 1 = (e : Int) := ⟨(wt.tmod 30 + 1).toNat, by omega⟩
  have h0 : WaitOk (64 * g + k) k g n e (s.m.log.length + 1) 975 ⟨0, { s with m := s.m.put 9 4 (k + 1) (4 * g + 2) true }, ⟨1, 64 * g + k, 0, 0, false, false⟩⟩ :=
    ⟨Nat.zero_le _, hw1, hns1, hwd1, by dsimp only; omega, rfl, rfl, rfl, rfl⟩
  refine loopB tab_ok mix [3, 9, 11, 13, 15, 16] [] (fun x : Wait => [(17, V.int x.i)]) (fun x => stoAt x.s 512 1 ++ [(3904, copR x.c 512)]) (WaitOk (64 * g + k) k g n e (s.m.log.length + 1) 975) (fun x => e - x.i) [(1, 3520)] _ rfl h0 (by (refine go ?_; try exact True.intro)) ?_
  clear h0 hst1
  rintro ⟨i, t, cc⟩ hx
  (refine go ?_; try exact True.intro)
  rw [he]
  have hi := hx.i
  dsimp only at hi
  refine br_dec (fun u => ?_) (fun u => ?_) <;> (refine go ?_; try exact True.intro)
  · have u' : i < e := by have u2 : (i : Int) < e := u; omega
    obtain ⟨n1, n2, n3⟩ := hx.next (by omega) (by omega) (by omega) rfl u' (by omega) (by decide)
    have hcc : COk cc 975 := ⟨fun y => by have := hx.ph; dsimp only at this; omega, fun y => by have := hx.dn; dsimp only at this; rw [this] at y; cases y⟩
    have a1 := cStepC cc t hx.wds hcc
    dsimp only at n1 n2 n3
    have eb := cBlockedC (cStep cc t).1 (cStep cc t).2
    have ef := cEffectC (cStep cc t).1 (cStep cc t).2
    rw [decide_eq_false (show ¬ (cStep cc t).1.ph = 2 by omega)] at a1 ef
    rw [n2] at eb
    generalize (cStep cc t).1 = c1 at *
    generalize (cStep cc t).2 = t1 at *
    refine callL a1 [some 3904, some 512, some 513, some 1, some 515, some 516] [] rfl ?_
    (refine go ?_; try exact True.intro)
    refine callL eb [some 3904, some 512, some 513, some 4672, some 515, some 516] [] rfl ?_
    (refine go ?_; try exact True.intro)
    refine callL ef [some 3904, some 512, some 513, some 4672, some 515, some 516] [] rfl ?_
    (refine go ?_; try exact True.intro)
    refine .mk [(1, 4672)] ⟨i + 1, t1, c1⟩ n3 (by dsimp only; omega) ?_
    (refine go ?_; try exact True.intro)
  · have hxw := hx.wds
    have hxl := hx.len
    have hxg := hx.log
    have hxh := hx.h
    have hxp := hx.ph
    have hxd := hx.dn
    dsimp only at hxw hxl hxg hxh hxp hxd
    have htl := hxw.lt
    refine callL (memoryC t) [some 512, some 513, some 1, some 515, some 516] [] rfl ?_
    (refine go ?_; try exact True.intro)
    refine callB (rWordC (g + 1) 0 ⟨⟨by omega, by omega⟩, by omega⟩) ?_
    (refine go ?_; try exact True.intro)
    have hst2 := storeC t.m 9 (k + 1) (4 * (g + 1) + 0) (by omega) hxw.fits.mem
    have hw2 := hxw.put 9 4 k (4 * (g + 1) + 0) true (by omega) (by omega) (by omega)
    have hwd2 : (t.m.put 9 4 (k + 1) (4 * (g + 1) + 0) true).word (k + 1) = 4 * (g + 1) + 0 := by rw [Mem.word_put _ _ _ _ _ _ _ (by omega), if_pos rfl]
    rw [show t.m.store 9 (k + 1) (4 * (g + 1) + 0) = t.m.put 9 4 (k + 1) (4 * (g + 1) + 0) true from rfl] at hst2
    have hns2 : ({ t with m := t.m.put 9 4 (k + 1) (4 * (g + 1) + 0) true } : Sto).slots.length = n := hxl
    rw [show (1 + (k : Int)) = ((k + 1 : Nat) : Int) by omega]
    refine callL hst2 [some 513, some 1, some 515, some 516] [] rfl ?_
    (refine go ?_; try exact True.intro)
    have hcc : COk cc 975 := ⟨fun y => by omega, fun y => by rw [hxd] at y; cases y⟩
    have a1 := cStepC cc _ hw2 hcc
    obtain ⟨q1, q2⟩ := slot_of (k := k) (g := g) (by omega) (by omega)
    have hhas : cc.has { t with m := t.m.put 9 4 (k + 1) (4 * (g + 1) + 0) true } := by unfold COp.has; rw [hxh, q1, hns2]; omega
    have hsl : cc.sl = k := by unfold COp.sl; rw [hxh, q1]; rfl
    have b1 := cStep_load hhas (by omega)
    dsimp only at b1
    rw [hsl, hwd2] at b1
    have hsw : staleW (4 * (g + 1) + 0) g = true := by
      unfold staleW
      rw [decide_eq_false (by omega)]; rfl
    have b2 : (cStep cc { t with m := t.m.put 9 4 (k + 1) (4 * (g + 1) + 0) true }).1 = { cc.cl with seen := 4 * (g + 1) + 0, ph := 2 } := by
      rw [b1]; unfold COp.load
      rw [show (cc.cl).h = cc.h from rfl, hxh, q2, hsw, if_pos rfl, ← hxh]
      rfl
    have hph : (cStep cc { t with m := t.m.put 9 4 (k + 1) (4 * (g + 1) + 0) true }).1.ph = 2 := by rw [b2]
    have hdn : (cStep cc { t with m := t.m.put 9 4 (k + 1) (4 * (g + 1) + 0) true }).1.done = false := by rw [b2]; exact hxd
    have ef := cEffectC (cStep cc { t with m := t.m.put 9 4 (k + 1) (4 * (g + 1) + 0) true }).1 (cStep cc { t with m := t.m.put 9 4 (k + 1) (4 * (g + 1) + 0) true }).2
    have er := cResultC (cStep cc { t with m := t.m.put 9 4 (k + 1) (4 * (g + 1) + 0) true }).1 (cStep cc { t with m := t.m.put 9 4 (k + 1) (4 * (g + 1) + 0) true }).2
    rw [decide_eq_true hph] at a1 ef
    rw [hdn] at er
    clear b1 b2 hph hdn
    generalize cStep cc { t with m := t.m.put 9 4 (k + 1) (4 * (g + 1) + 0) true } = r at *
    refine callL a1 [some 3904, some 512, some 513, some 5056, some 515, some 516] [] rfl ?_
    (refine go ?_; try exact True.intro)
    refine callL ef [some 3904, some 512, some 513, some 5312, some 515, some 516] [] rfl ?_
    (refine go ?_; try exact True.intro)
    refine callL er [some 3904, some 512, some 513, some 5312, some 515, some 516] [] rfl ?_
    (refine go ?_; try exact True.intro)
    exact .same rfl
end Go.Proofs.YtcffiehcdadimaaGreat.Abs
