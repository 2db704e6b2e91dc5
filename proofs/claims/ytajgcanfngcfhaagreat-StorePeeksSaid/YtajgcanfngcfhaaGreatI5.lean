/- Laws of stores as contracts: Peek and Drop. -/
import Derived.Test.YtajgcanfngcfhaaGreatI4
namespace Go.Proofs.YtajgcanfngcfhaaGreat.Abs
open Go.Proofs
set_option maxRecDepth 10000
set_option linter.unusedSimpArgs false
set_option linter.unusedVariables false
set_option maxHeartbeats 8000000 in
theorem storePeeks (c : Int) (hc : 0 ≤ c ∧ c ≤ 255) (l : List OpS) (hl : ∀ o ∈ l, o.Ok) (mo : Int) (hmo : 0 ≤ mo ∧ mo ≤ 65535) :
    PSpec Tryz.prog 5 [.c (.int .u8 c), opsSV l, .c (.int .u16 mo)] (V.bool true) := by
  obtain ⟨e1, hn⟩ := capN_ok hc.1
  generalize capN c = n at *
  have hh := heldC n hn
  have hz := runOk_zero hn l
  generalize heldN n 4 = s0 at *
  refine pspec tab_ok mix Tryz.func5 (by kernel_rfl) rfl rfl ?_
  ((conv => whnf); (repeat (first | ((first | refine z1 ?_ | refine z2 ?_ | refine z3 ?_ | refine idxB_at (by decide) rfl ?_ | refine atB_at (by decide) (by decide) ?_ | refine getB_lit _ rfl ?_ | refine z7 ?_); conv => whnf) | exact True.intro)))
  refine callB head11C ?_
  ((conv => whnf); (repeat (first | ((first | refine z1 ?_ | refine z2 ?_ | refine z3 ?_ | refine idxB_at (by decide) rfl ?_ | refine atB_at (by decide) (by decide) ?_ | refine getB_lit _ rfl ?_ | refine z7 ?_); conv => whnf) | exact True.intro)))
  rw [e1]
  refine callL hh [] [] rfl ?_
  ((conv => whnf); (repeat (first | ((first | refine z1 ?_ | refine z2 ?_ | refine z3 ?_ | refine idxB_at (by decide) rfl ?_ | refine atB_at (by decide) (by decide) ?_ | refine getB_lit _ rfl ?_ | refine z7 ?_); conv => whnf) | exact True.intro)))
  refine br_dec (fun g => ?_) (fun g => ?_) <;> ((conv => whnf); (repeat (first | ((first | refine z1 ?_ | refine z2 ?_ | refine z3 ?_ | refine idxB_at (by decide) rfl ?_ | refine atB_at (by decide) (by decide) ?_ | refine getB_lit _ rfl ?_ | refine z7 ?_); conv => whnf) | exact True.intro)))
  · exact .same rfl
  have hll : l.length ≤ 80 := by simp at g; omega
  refine loopB tab_ok mix [1, 2, 7, 8, 9] [] (fun x : Run => [(10, V.int x.i)]) (fun x => stoAt x.s 576 1) (RunOk n l) (fun x => l.length - x.i) [(1, 578)] ⟨0, s0, []⟩ rfl hz (by ((conv => whnf); (repeat (first | ((first | refine z1 ?_ | refine z2 ?_ | refine z3 ?_ | refine idxB_at (by decide) rfl ?_ | refine atB_at (by decide) (by decide) ?_ | refine getB_lit _ rfl ?_ | refine z7 ?_); conv => whnf) | exact True.intro)))) ?_
  rintro ⟨i, s, S⟩ hx
  have hi := hx.i
  have hb := hx.ok
  dsimp only at hi hb
  ((conv => whnf); (repeat (first | ((first | refine z1 ?_ | refine z2 ?_ | refine z3 ?_ | refine idxB_at (by decide) rfl ?_ | refine atB_at (by decide) (by decide) ?_ | refine getB_lit _ rfl ?_ | refine z7 ?_); conv => whnf) | exact True.intro)))
  refine br_dec (fun u => ?_) (fun u => ?_) <;> ((conv => whnf); (repeat (first | ((first | refine z1 ?_ | refine z2 ?_ | refine z3 ?_ | refine idxB_at (by decide) rfl ?_ | refine atB_at (by decide) (by decide) ?_ | refine getB_lit _ rfl ?_ | refine z7 ?_); conv => whnf) | exact True.intro)))
  · have u' : i < l.length := by simpa using u
    obtain ⟨o, ho⟩ := get_lt u'
    obtain ⟨r, t', T, hs, hst⟩ := stepSC hb (by omega) hx.held o (hl o (List.mem_of_getElem? ho))
    refine idxB ho ?_
    ((conv => whnf); (repeat (first | ((first | refine z1 ?_ | refine z2 ?_ | refine z3 ?_ | refine idxB_at (by decide) rfl ?_ | refine atB_at (by decide) (by decide) ?_ | refine getB_lit _ rfl ?_ | refine z7 ?_); conv => whnf) | exact True.intro)))
    refine callL hs [some 576, some 577, some 1, some 579, some 580] [] rfl ?_
    ((conv => whnf); (repeat (first | ((first | refine z1 ?_ | refine z2 ?_ | refine z3 ?_ | refine idxB_at (by decide) rfl ?_ | refine atB_at (by decide) (by decide) ?_ | refine getB_lit _ rfl ?_ | refine z7 ?_); conv => whnf) | exact True.intro)))
    refine .mk [(1, 1856)] ⟨i + 1, t', T⟩ (hx.next u' hst) (by dsimp only; omega) ?_
    ((conv => whnf); (repeat (first | ((first | refine z1 ?_ | refine z2 ?_ | refine z3 ?_ | refine idxB_at (by decide) rfl ?_ | refine atB_at (by decide) (by decide) ?_ | refine getB_lit _ rfl ?_ | refine z7 ?_); conv => whnf) | exact True.intro)))
  have hi80 : i ≤ 80 := by omega
  have hal := hx.held
  dsimp only at hal
  clear hx u hl hi hz
  have hits := itemsH hb
  have hars := arenaH hb
  obtain ⟨b1, hal1, _, hpk⟩ := hb.peekH (by omega) hal
  obtain ⟨q1, q2, q3, q4⟩ := take_pics (by rw [hb.nw]; omega) hal (fillG s.q)
  have htop : ∀ x T, S = x :: T → x.time < (fillG s.q).topStart := fun x T e => by subst e; exact hb.toSOk.head_top
  rw [← q4] at htop
  have hpl := hb.toSOk.pics_len
  have hil := hb.toSOk.idle_len
  have hSl := hb.toSOk.len
  have h12 := hb.n12
  rw [← q1] at hpl
  rw [← q2] at hil
  rw [← q1, ← q2, ← q3] at hars
  generalize s.take 0 (fillG s.q) = s1 at *
  have hits1 := itemsH b1
  have hars1 := arenaH b1
  have hw0 : s1.m.word 0 = s1.q.topStart := b1.top
  have hts : 0 ≤ s1.q.topStart ∧ s1.q.topStart ≤ 1152921504606846977 := by
    obtain ⟨k, hk, hq⟩ := b1.q
    exact hq.rel.good.ts
  refine callL hits [some 576, some 577, some 1, some 579, some 580] [] rfl ?_
  ((conv => whnf); (repeat (first | ((first | refine z1 ?_ | refine z2 ?_ | refine z3 ?_ | refine idxB_at (by decide) rfl ?_ | refine atB_at (by decide) (by decide) ?_ | refine getB_lit _ rfl ?_ | refine z7 ?_); conv => whnf) | exact True.intro)))
  refine callL hars [some 576, some 577, some 1, some 579, some 580] [] rfl ?_
  ((conv => whnf); (repeat (first | ((first | refine z1 ?_ | refine z2 ?_ | refine z3 ?_ | refine idxB_at (by decide) rfl ?_ | refine atB_at (by decide) (by decide) ?_ | refine getB_lit _ rfl ?_ | refine z7 ?_); conv => whnf) | exact True.intro)))
  refine callL hpk [some 576, some 577, some 1, some 579, some 580] [] rfl ?_
  ((conv => whnf); (repeat (first | ((first | refine z1 ?_ | refine z2 ?_ | refine z3 ?_ | refine idxB_at (by decide) rfl ?_ | refine atB_at (by decide) (by decide) ?_ | refine getB_lit _ rfl ?_ | refine z7 ?_); conv => whnf) | exact True.intro)))
  have hlen : (!(decide (S ≠ []) == decide ((0 : Int) < (S.map Item.row).length))) = false := by
    cases S with
    | nil => rfl
    | cons x T => rw [decide_eq_true (show x :: T ≠ [] by simp), decide_eq_true (show (0 : Int) < (((x :: T).map Item.row).length : Int) by simp)]; rfl
  rw [hlen]
  ((conv => whnf); (repeat (first | ((first | refine z1 ?_ | refine z2 ?_ | refine z3 ?_ | refine idxB_at (by decide) rfl ?_ | refine atB_at (by decide) (by decide) ?_ | refine getB_lit _ rfl ?_ | refine z7 ?_); conv => whnf) | exact True.intro)))
  refine dcallR hits1 [some 576, some 577, some 1984, some 579, some 580] rfl rfl ?_
  ((conv => whnf); (repeat (first | ((first | refine z1 ?_ | refine z2 ?_ | refine z3 ?_ | refine idxB_at (by decide) rfl ?_ | refine atB_at (by decide) (by decide) ?_ | refine getB_lit _ rfl ?_ | refine z7 ?_); conv => whnf) | exact True.intro)))
  refine dcallB (sameItC S (by omega)) ?_
  ((conv => whnf); (repeat (first | ((first | refine z1 ?_ | refine z2 ?_ | refine z3 ?_ | refine idxB_at (by decide) rfl ?_ | refine atB_at (by decide) (by decide) ?_ | refine getB_lit _ rfl ?_ | refine z7 ?_); conv => whnf) | exact True.intro)))
  refine dcallR hars1 [some 576, some 577, some 1984, some 579, some 580] rfl rfl ?_
  ((conv => whnf); (repeat (first | ((first | refine z1 ?_ | refine z2 ?_ | refine z3 ?_ | refine idxB_at (by decide) rfl ?_ | refine atB_at (by decide) (by decide) ?_ | refine getB_lit _ rfl ?_ | refine z7 ?_); conv => whnf) | exact True.intro)))
  refine dcallB (sameArC s1.pics s1.idle s1.next (by omega) (by omega)) ?_
  ((conv => whnf); (repeat (first | ((first | refine z1 ?_ | refine z2 ?_ | refine z3 ?_ | refine idxB_at (by decide) rfl ?_ | refine atB_at (by decide) (by decide) ?_ | refine getB_lit _ rfl ?_ | refine z7 ?_); conv => whnf) | exact True.intro)))
  refine callL (memoryC s1) [some 576, some 577, some 1984, some 579, some 580] [] rfl ?_
  ((conv => whnf); (repeat (first | ((first | refine z1 ?_ | refine z2 ?_ | refine z3 ?_ | refine idxB_at (by decide) rfl ?_ | refine atB_at (by decide) (by decide) ?_ | refine getB_lit _ rfl ?_ | refine z7 ?_); conv => whnf) | exact True.intro)))
  refine callL (wordAtC s1.m 0 (by rw [b1.nw]; omega) b1.fits.mem) [some 577, some 1984, some 579, some 580] [] rfl ?_
  rw [hw0]
  ((conv => whnf); (repeat (first | ((first | refine z1 ?_ | refine z2 ?_ | refine z3 ?_ | refine idxB_at (by decide) rfl ?_ | refine atB_at (by decide) (by decide) ?_ | refine getB_lit _ rfl ?_ | refine z7 ?_); conv => whnf) | exact True.intro)))
  cases S with
  | nil =>
    rw [show decide (([] : List Item) ≠ []) = false from rfl]
    ((conv => whnf); (repeat (first | ((first | refine z1 ?_ | refine z2 ?_ | refine z3 ?_ | refine idxB_at (by decide) rfl ?_ | refine atB_at (by decide) (by decide) ?_ | refine getB_lit _ rfl ?_ | refine z7 ?_); conv => whnf) | exact True.intro)))
    exact .same rfl
  | cons x T =>
    rw [show decide (x :: T ≠ []) = true from decide_eq_true (by simp)]
    ((conv => whnf); (repeat (first | ((first | refine z1 ?_ | refine z2 ?_ | refine z3 ?_ | refine idxB_at (by decide) rfl ?_ | refine atB_at (by decide) (by decide) ?_ | refine getB_lit _ rfl ?_ | refine z7 ?_); conv => whnf) | exact True.intro)))
    rw [show headI (x :: T) = x from rfl]
    ((conv => whnf); (repeat (first | ((first | refine z1 ?_ | refine z2 ?_ | refine z3 ?_ | refine idxB_at (by decide) rfl ?_ | refine atB_at (by decide) (by decide) ?_ | refine getB_lit _ rfl ?_ | refine z7 ?_); conv => whnf) | exact True.intro)))
    refine dneqB [true, true, true] (by kernel_rfl) rfl rfl rfl ?_
    ((conv => whnf); (repeat (first | ((first | refine z1 ?_ | refine z2 ?_ | refine z3 ?_ | refine idxB_at (by decide) rfl ?_ | refine atB_at (by decide) (by decide) ?_ | refine getB_lit _ rfl ?_ | refine z7 ?_); conv => whnf) | exact True.intro)))
    refine brNeq (p := True) (by simp) (fun h => absurd trivial h) (fun _ => ?_)
    ((conv => whnf); (repeat (first | ((first | refine z1 ?_ | refine z2 ?_ | refine z3 ?_ | refine idxB_at (by decide) rfl ?_ | refine atB_at (by decide) (by decide) ?_ | refine getB_lit _ rfl ?_ | refine z7 ?_); conv => whnf) | exact True.intro)))
    have hxt := htop x T rfl
    refine br_dec (fun g2 => ?_) (fun g2 => ?_) <;> ((conv => whnf); (repeat (first | ((first | refine z1 ?_ | refine z2 ?_ | refine z3 ?_ | refine idxB_at (by decide) rfl ?_ | refine atB_at (by decide) (by decide) ?_ | refine getB_lit _ rfl ?_ | refine z7 ?_); conv => whnf) | exact True.intro)))
    · rcases b1.last with hid | ⟨il, k, hid, hk, hk0, _⟩
      · have hno := allocNo s1 0 (s1.q.topStart + mo) hid b1.fits (by rw [b1.nm]; exact Nat.le_refl _)
        rw [Sto.touch_id (th := 0) (l := [3]) (fun j hj => hal1 j (by simp at hj; omega))] at hno
        refine callL hno [some 576, some 577, some 1984, some 579, some 580] [] rfl ?_
        ((conv => whnf); (repeat (first | ((first | refine z1 ?_ | refine z2 ?_ | refine z3 ?_ | refine idxB_at (by decide) rfl ?_ | refine atB_at (by decide) (by decide) ?_ | refine getB_lit _ rfl ?_ | refine z7 ?_); conv => whnf) | exact True.intro)))
        obtain ⟨_, _, _, b5, _, _, hd⟩ := b1.dropH (by omega) hal1
        refine callL hd [some 576, some 577, some 4992, some 579, some 580] [] rfl ?_
        ((conv => whnf); (repeat (first | ((first | refine z1 ?_ | refine z2 ?_ | refine z3 ?_ | refine idxB_at (by decide) rfl ?_ | refine atB_at (by decide) (by decide) ?_ | refine getB_lit _ rfl ?_ | refine z7 ?_); conv => whnf) | exact True.intro)))
        refine dcallR (itemsH b5) [some 576, some 577, some 5504, some 579, some 580] rfl rfl ?_
        ((conv => whnf); (repeat (first | ((first | refine z1 ?_ | refine z2 ?_ | refine z3 ?_ | refine idxB_at (by decide) rfl ?_ | refine atB_at (by decide) (by decide) ?_ | refine getB_lit _ rfl ?_ | refine z7 ?_); conv => whnf) | exact True.intro)))
        refine slB 1 (x :: T).length rfl (by simp [isHi]) (by simp) ?_
        rw [show (((x :: T).map Item.row).drop 1).take ((x :: T).length - 1) = T.map Item.row by simp; exact List.take_of_length_le (by simp)]
        ((conv => whnf); (repeat (first | ((first | refine z1 ?_ | refine z2 ?_ | refine z3 ?_ | refine idxB_at (by decide) rfl ?_ | refine atB_at (by decide) (by decide) ?_ | refine getB_lit _ rfl ?_ | refine z7 ?_); conv => whnf) | exact True.intro)))
        refine dcallB (sameItC T (by have := b5.toSOk.len; omega)) ?_
        ((conv => whnf); (repeat (first | ((first | refine z1 ?_ | refine z2 ?_ | refine z3 ?_ | refine idxB_at (by decide) rfl ?_ | refine atB_at (by decide) (by decide) ?_ | refine getB_lit _ rfl ?_ | refine z7 ?_); conv => whnf) | exact True.intro)))
        exact .same rfl
      · obtain ⟨b2, hal2, ha⟩ := b1.allocH (by omega) hal1 (s1.q.topStart + mo) ⟨by omega, g2⟩ hid hk
        have hit := item_new (th := 0) (t := s1.q.topStart + mo) (l := il) (s := s1) (i := k) (by rw [b1.ns]; exact hk)
        refine callL ha [some 576, some 577, some 1984, some 579, some 580] [] rfl ?_
        ((conv => whnf); (repeat (first | ((first | refine z1 ?_ | refine z2 ?_ | refine z3 ?_ | refine idxB_at (by decide) rfl ?_ | refine atB_at (by decide) (by decide) ?_ | refine getB_lit _ rfl ?_ | refine z7 ?_); conv => whnf) | exact True.intro)))
        have hgk : 0 ≤ s1.gn k ∧ s1.gn k ≤ 400 := by
          have h1 := b1.wd k hk
          unfold Sto.gn at h1 ⊢
          omega
        have hsl : slotH (64 * s1.gn k + k) = k := by unfold slotH; rw [if_pos ⟨by omega, by omega⟩]; omega
        refine callB (rSlotC (64 * s1.gn k + k)) ?_
        rw [hsl]
        ((conv => whnf); (repeat (first | ((first | refine z1 ?_ | refine z2 ?_ | refine z3 ?_ | refine idxB_at (by decide) rfl ?_ | refine atB_at (by decide) (by decide) ?_ | refine getB_lit _ rfl ?_ | refine z7 ?_); conv => whnf) | exact True.intro)))
        have htm : ((k : Int)).tmod n = k := Int.tmod_eq_of_lt (by omega) (by omega)
        rw [htm]
        obtain ⟨b3, hal3, _, hp⟩ := b2.putH (by omega) hal2 (i := k) (.inr rfl)
        rw [insI_cons (bf_time (by rw [hit]; show x.time < s1.q.topStart + mo; omega))] at b3
        generalize (s1.alloc1 0 (s1.q.topStart + mo) il k).put 0 k = s3 at *
        generalize s1.alloc1 0 (s1.q.topStart + mo) il k = s2 at *
        generalize insI T (s2.item k) = T2 at *
        refine callL hp [some 576, some 577, some 4992, some 579, some 580] [] rfl ?_
        ((conv => whnf); (repeat (first | ((first | refine z1 ?_ | refine z2 ?_ | refine z3 ?_ | refine idxB_at (by decide) rfl ?_ | refine atB_at (by decide) (by decide) ?_ | refine getB_lit _ rfl ?_ | refine z7 ?_); conv => whnf) | exact True.intro)))
        obtain ⟨b4, hal4, _, hpk2⟩ := b3.peekH (by omega) hal3
        generalize s3.take 0 (fillG s3.q) = s4 at *
        refine callL hpk2 [some 576, some 577, some 4992, some 579, some 580] [] rfl ?_
        ((conv => whnf); (repeat (first | ((first | refine z1 ?_ | refine z2 ?_ | refine z3 ?_ | refine idxB_at (by decide) rfl ?_ | refine atB_at (by decide) (by decide) ?_ | refine getB_lit _ rfl ?_ | refine z7 ?_); conv => whnf) | exact True.intro)))
        rw [show headI (x :: T2) = x from rfl]
        ((conv => whnf); (repeat (first | ((first | refine z1 ?_ | refine z2 ?_ | refine z3 ?_ | refine idxB_at (by decide) rfl ?_ | refine atB_at (by decide) (by decide) ?_ | refine getB_lit _ rfl ?_ | refine z7 ?_); conv => whnf) | exact True.intro)))
        refine neqB [true, true, true] (by kernel_rfl) rfl rfl rfl ?_
        ((conv => whnf); (repeat (first | ((first | refine z1 ?_ | refine z2 ?_ | refine z3 ?_ | refine idxB_at (by decide) rfl ?_ | refine atB_at (by decide) (by decide) ?_ | refine getB_lit _ rfl ?_ | refine z7 ?_); conv => whnf) | exact True.intro)))
        refine brNeq (p := True) (by simp) (fun h => absurd trivial h) (fun _ => ?_)
        ((conv => whnf); (repeat (first | ((first | refine z1 ?_ | refine z2 ?_ | refine z3 ?_ | refine idxB_at (by decide) rfl ?_ | refine atB_at (by decide) (by decide) ?_ | refine getB_lit _ rfl ?_ | refine z7 ?_); conv => whnf) | exact True.intro)))
        refine callL (itemsH b4) [some 576, some 577, some 5888, some 579, some 580] [] rfl ?_
        ((conv => whnf); (repeat (first | ((first | refine z1 ?_ | refine z2 ?_ | refine z3 ?_ | refine idxB_at (by decide) rfl ?_ | refine atB_at (by decide) (by decide) ?_ | refine getB_lit _ rfl ?_ | refine z7 ?_); conv => whnf) | exact True.intro)))
        obtain ⟨_, _, _, b5, _, _, hd⟩ := b4.dropH (by omega) hal4
        refine callL hd [some 576, some 577, some 5888, some 579, some 580] [] rfl ?_
        ((conv => whnf); (repeat (first | ((first | refine z1 ?_ | refine z2 ?_ | refine z3 ?_ | refine idxB_at (by decide) rfl ?_ | refine atB_at (by decide) (by decide) ?_ | refine getB_lit _ rfl ?_ | refine z7 ?_); conv => whnf) | exact True.intro)))
        refine dcallR (itemsH b5) [some 576, some 577, some 7040, some 579, some 580] rfl rfl ?_
        ((conv => whnf); (repeat (first | ((first | refine z1 ?_ | refine z2 ?_ | refine z3 ?_ | refine idxB_at (by decide) rfl ?_ | refine atB_at (by decide) (by decide) ?_ | refine getB_lit _ rfl ?_ | refine z7 ?_); conv => whnf) | exact True.intro)))
        refine slB 1 (x :: T2).length rfl (by simp [isHi]) (by simp) ?_
        rw [show (((x :: T2).map Item.row).drop 1).take ((x :: T2).length - 1) = T2.map Item.row by simp; exact List.take_of_length_le (by simp)]
        ((conv => whnf); (repeat (first | ((first | refine z1 ?_ | refine z2 ?_ | refine z3 ?_ | refine idxB_at (by decide) rfl ?_ | refine atB_at (by decide) (by decide) ?_ | refine getB_lit _ rfl ?_ | refine z7 ?_); conv => whnf) | exact True.intro)))
        refine dcallB (sameItC T2 (by have := b5.toSOk.len; omega)) ?_
        ((conv => whnf); (repeat (first | ((first | refine z1 ?_ | refine z2 ?_ | refine z3 ?_ | refine idxB_at (by decide) rfl ?_ | refine atB_at (by decide) (by decide) ?_ | refine getB_lit _ rfl ?_ | refine z7 ?_); conv => whnf) | exact True.intro)))
        exact .same rfl
    · obtain ⟨_, _, _, b5, _, _, hd⟩ := b1.dropH (by omega) hal1
      refine callL hd [some 576, some 577, some 1984, some 579, some 580] [] rfl ?_
      ((conv => whnf); (repeat (first | ((first | refine z1 ?_ | refine z2 ?_ | refine z3 ?_ | refine idxB_at (by decide) rfl ?_ | refine atB_at (by decide) (by decide) ?_ | refine getB_lit _ rfl ?_ | refine z7 ?_); conv => whnf) | exact True.intro)))
      refine dcallR (itemsH b5) [some 576, some 577, some 4736, some 579, some 580] rfl rfl ?_
      ((conv => whnf); (repeat (first | ((first | refine z1 ?_ | refine z2 ?_ | refine z3 ?_ | refine idxB_at (by decide) rfl ?_ | refine atB_at (by decide) (by decide) ?_ | refine getB_lit _ rfl ?_ | refine z7 ?_); conv => whnf) | exact True.intro)))
      refine slB 1 (x :: T).length rfl (by simp [isHi]) (by simp) ?_
      rw [show (((x :: T).map Item.row).drop 1).take ((x :: T).length - 1) = T.map Item.row by simp; exact List.take_of_length_le (by simp)]
      ((conv => whnf); (repeat (first | ((first | refine z1 ?_ | refine z2 ?_ | refine z3 ?_ | refine idxB_at (by decide) rfl ?_ | refine atB_at (by decide) (by decide) ?_ | refine getB_lit _ rfl ?_ | refine z7 ?_); conv => whnf) | exact True.intro)))
      refine dcallB (sameItC T (by have := b5.toSOk.len; omega)) ?_
      ((conv => whnf); (repeat (first | ((first | refine z1 ?_ | refine z2 ?_ | refine z3 ?_ | refine idxB_at (by decide) rfl ?_ | refine atB_at (by decide) (by decide) ?_ | refine getB_lit _ rfl ?_ | refine z7 ?_); conv => whnf) | exact True.intro)))
      exact .same rfl
end Go.Proofs.YtajgcanfngcfhaaGreat.Abs
