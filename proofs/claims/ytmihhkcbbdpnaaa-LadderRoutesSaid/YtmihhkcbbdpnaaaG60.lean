/- What rung.items hands to the rounds of a range over it. -/
import Derived.Test.YtmihhkcbbdpnaaaK2
import Derived.Test.YtmihhkcbbdpnaaaR1
import Derived.RangeFuncBox
import Derived.RangeFuncLeaves
import Derived.Shelf.Abstract
import Derived.WalkKit
import Derived.OwnWalkIn
import Derived.TacticsInMore
import Derived.LoopNIn
import Derived.LoopIn
namespace Go.Proofs.Ytmihhkcbbdpnaaa.Abs
open Go.Proofs Go.RowKit Go.Shelf
set_option maxRecDepth 100000
set_option linter.unusedSimpArgs false
set_option linter.unusedVariables false
attribute [local go_sem] Oper.semAt_some

/-- the items of the first i buckets, each with its bucket's number -/
def itN (bs : List (List Item)) : Nat → List (Nat × Item)
  | 0 => []
  | i + 1 => itN bs i ++ (bs.getD i []).map fun x => (i, x)
def itV (p : Nat × Item) : List V := [V.int p.1, .agg [V.int p.2.time, V.int p.2.seq, V.int p.2.slot]]
def itE (p : Nat × Item) : Array Value := #[.int .i64 p.1, .agg #[.int .i64 p.2.time, .int .i64 p.2.seq, .int .i64 p.2.slot]]
structure BkAt (bs : List (List Item)) (b o : Nat) (ad : Nat → Option Addr) (cp bb oo : Nat → Nat) (X : World) : Prop where
  head : ∀ i l, bs[i]? = some l → X.cell? ⟨b, o + i, none⟩ = some (.slice (ad i) l.length (cp i))
  addr : ∀ i l, bs[i]? = some l → l ≠ [] → ad i = some ⟨bb i, oo i, none⟩
  c0 : ∀ i l j x, bs[i]? = some l → l[j]? = some x → X.cell? ⟨bb i, oo i + j * 3, none⟩ = some (.int .i64 x.time)
  c1 : ∀ i l j x, bs[i]? = some l → l[j]? = some x → X.cell? ⟨bb i, oo i + j * 3 + 1, none⟩ = some (.int .i64 x.seq)
  c2 : ∀ i l j x, bs[i]? = some l → l[j]? = some x → X.cell? ⟨bb i, oo i + j * 3 + 2, none⟩ = some (.int .i64 x.slot)

theorem itN_prefix (bs : List (List Item)) {i : Nat} : ∀ {j : Nat}, i ≤ j → itN bs i <+: itN bs j
  | 0, h => by rw [show i = 0 by omega]; exact List.prefix_refl _
  | j + 1, h => by
    by_cases e : i = j + 1
    · rw [e]; exact List.prefix_refl _
    · exact (itN_prefix bs (show i ≤ j by omega)).trans (List.prefix_append _ _)
set_option maxHeartbeats 4000000 in
theorem items1_in (l dep Bs Os b o cap : Nat) (sa : Option Addr) (ad : Nat → Option Addr) (cp bb oo : Nat → Nat) (bs : List (List Item)) (hn : bs.length < 1000) (hl : ∀ l ∈ bs, l.length < 1000000) (J Jx : List (Nat × Item) → World → Prop)
    (hJ : ∀ pre X Y, J pre X → Goes (fun _ => False) X Y → J pre Y) (hJx : ∀ pre X Y, Jx pre X → Goes (fun _ => False) X Y → Jx pre Y)
    (hY : ∀ pre x X, J pre X → pre ++ [x] <+: itN bs bs.length → YieldAt (Fw none) dep Try.prog l (itE x) X fun e Y => (e = .returned (.bool true) ∧ J (pre ++ [x]) Y) ∨ (e = .returned (.bool false) ∧ Jx (pre ++ [x]) Y))
    (hB : ∀ pre X, J pre X → BkAt bs b o ad cp bb oo X) (W : World) (hsa : bs ≠ [] → sa = some ⟨b, o, none⟩) (hBs : W.cell? ⟨Bs, Os + 3, none⟩ = some (.slice sa bs.length cap)) (h0 : J [] W) :
    CallsIn (Fw none) (dep + 1) Try.prog 155 #[.func (.yield l) #[] #[], .pointer (some ⟨Bs, Os, none⟩)] W fun e Y => (∃ v, e = .returned v) ∧ (J (itN bs bs.length) Y ∨ ∃ pre, Jx pre Y) := by
  obtain ⟨F, hF⟩ : ∃ F, F = Fw none := ⟨_, rfl⟩
  rw [← hF] at hY ⊢
  have hro : F.round = none := by rw [hF]; rfl
  have hfn : ∀ f, F.fn f := fun f => by rw [hF]; trivial
  have hdp : F.depth.isSome = true → 1 ≤ dep + 1 := fun _ => by omega
  clear hF
  refine callsIn_of_wp Try.func155 rfl (hfn _) ?_ hro
  simp only [Try.ntmps155, List.size_toArray, List.length_cons, List.length_nil, Nat.reduceAdd, Nat.reduceSub, Array.replicate_succ, Array.replicate_zero, List.push_toArray, List.append_toArray, List.nil_append, List.cons_append]
  gi_wp2
  gi_loopw [10] (fun i wr => ∃ k : Nat, k ≤ bs.length ∧ i = .int .i64 k ∧ J (itN bs k) wr) (fun i _ => bs.length - (intOf i).toNat)
  case atStart => exact ⟨0, Nat.zero_le _, rfl, h0⟩
  case round =>
    obtain ⟨k, hk, rfl, hJs⟩ := hrel
    by_cases hlt : k < bs.length
    · obtain ⟨l1, hl1⟩ : ∃ l1, bs[k]? = some l1 := ⟨_, List.getElem?_eq_getElem hlt⟩
      have hlm := hl l1 (List.mem_of_getElem? hl1)
      have hcx := (hB _ _ hJs).head k l1 hl1
      have hsa' := hsa (by rintro rfl; simp at hlt)
      subst hsa'
      gi_wp2
      gi_loopw [17] (fun i wr => ∃ m : Nat, m ≤ l1.length ∧ i = .int .i64 m ∧ J (itN bs k ++ (l1.take m).map fun x => (k, x)) wr) (fun i _ => l1.length - (intOf i).toNat)
      case atStart => exact ⟨0, Nat.zero_le _, rfl, by simpa using hJs⟩
      case round =>
        obtain ⟨m, hm, rfl, hJm⟩ := hrel
        by_cases hlt2 : m < l1.length
        · obtain ⟨x, hx⟩ := get_lt hlt2
          have hne : l1 ≠ [] := by rintro rfl; simp at hlt2
          have hB2 := hB _ _ hJm
          have had := hB2.addr k l1 hl1 hne
          have q0 := hB2.c0 k l1 m x hl1 hx
          have q1 := hB2.c1 k l1 m x hl1 hx
          have q2 := hB2.c2 k l1 m x hl1 hx
          rw [had]
          have hpre : itN bs k ++ (l1.take m).map (fun x => (k, x)) ++ [(k, x)] <+: itN bs bs.length := by
            refine List.IsPrefix.trans ?_ (itN_prefix bs (show k + 1 ≤ bs.length by omega))
            rw [itN, List.getD_eq_getElem?_getD, hl1]
            refine ⟨(l1.drop (m + 1)).map fun x => (k, x), ?_⟩
            obtain ⟨h1, h2⟩ := List.getElem?_eq_some_iff.1 hx
            have := List.take_append_drop m l1
            rw [List.drop_eq_getElem_cons h1, h2] at this
            conv => rhs; rw [Option.getD_some, ← this]
            simp
          have hJ2 := hJ _ _ _ hJm (Goes.alloc (fun _ => False) wr (.cells #[.int .i64 x.time, .int .i64 x.seq, .int .i64 x.slot] 75))
          obtain ⟨fn, tmps, assign, body, hy, hR⟩ := hY _ (k, x) _ hJ2 hpre
          dsimp only [itE] at hy
          gi_wp2
          refine hR.mono ?_
          rintro e W3 (⟨rfl, hJ3⟩ | ⟨rfl, hJx3⟩)
          · gi_wp2
            go_roundw
            case rel => exact ⟨m + 1, by omega, by simp, by rw [List.take_add_one, hx]; simpa using hJ3⟩
            case measure => simp [intOf]; omega
          · gi_wp2
            refine bodyPost_ret (results_none rfl _ _ _) rfl ?_
            exact ⟨⟨_, rfl⟩, .inr ⟨_, hJx3⟩⟩
        · obtain rfl : m = l1.length := by omega
          gi_wp2
          go_roundw
          case rel => exact ⟨k + 1, by omega, by simp, by rw [itN, List.getD_eq_getElem?_getD, hl1]; simpa using hJm⟩
          case measure => simp [intOf]; omega
    · obtain rfl : k = bs.length := by omega
      gi_wp2
      go_end0
      exact ⟨⟨_, rfl⟩, .inl hJs⟩

theorem dItem {A : Nat → Prop} {w : World} {l : List Item} {v : Value} (h : RepD A w (itemsD l) v) : ∃ (ad : Option Addr) (cp bb oo : Nat), v = .slice ad l.length cp ∧ (l ≠ [] → ad = some ⟨bb, oo, none⟩ ∧ bb < w.heap.size ∧ ¬ A bb) ∧
    ∀ j x, l[j]? = some x → w.cell? ⟨bb, oo + j * 3, none⟩ = some (.int .i64 x.time) ∧ w.cell? ⟨bb, oo + j * 3 + 1, none⟩ = some (.int .i64 x.seq) ∧ w.cell? ⟨bb, oo + j * 3 + 2, none⟩ = some (.int .i64 x.slot) := by
  unfold itemsD at h
  generalize hq : l.map Item.row = rows at h
  cases h with
  | emp _ a cap =>
    have hl : l = [] := by simpa using hq
    subst hl
    exact ⟨a, cap, 0, 0, rfl, fun h => absurd rfl h, fun j x hx => by simp at hx⟩
  | lst _ _ b o cap cell hcap hb hn hw hc hd =>
    subst hq
    refine ⟨_, cap, b, o, by simp, fun _ => ⟨rfl, hb, hn⟩, fun j x hx => ?_⟩
    have hr : (l.map Item.row)[j]? = some x.row := by simp [hx]
    have k : ∀ (q : Nat) (u : Value), x.row[q]? = some (.c u) → w.cell? ⟨b, o + (j * 3 + q), none⟩ = some u := fun q u hu => by
      have e := hd j x.row q (.c u) hr hu
      rw [hc j x.row q (.c u) hr hu]
      generalize cell j q = z at e
      cases e; rfl
    exact ⟨k 0 _ rfl, by have := k 1 _ rfl; rwa [← Nat.add_assoc] at this, by have := k 2 _ rfl; rwa [← Nat.add_assoc] at this⟩

/-- the box of a rung -/
def rngB (r : Rng) : B := .rows 4 [[V.int r.from', V.int r.width, V.int r.cur, bktsV r.bkts]]
theorem itemsX (r : Rng) (hn : r.bkts.length < 1000) (hl : ∀ l ∈ r.bkts, l.length < 1000000) {h : Hp} {nm : Nat} (hh : h nm = some (rngB r)) {F : Nat → Prop} {ids : Nat → Nat × Nat} {w : World} {M : Nm} (hr : RepH F ids w h M) {lb : Array Value} (hs : lb.size = 1)
    (hlb : ∀ (i : Nat) (x : V) (v : Value), [V.p nm 4 0 0][i]? = some x → lb[i]? = some v → RepV (Avoid F h ids) ids w x v) : SeqX Try.prog 155 lb itE (itN r.bkts r.bkts.length) w (Live h ids) := by
  intro l dep J Jx W hW hJ hJx hJG hY h0
  obtain ⟨v0, rfl⟩ : ∃ v0, lb = #[v0] := by
    rcases lb with ⟨_ | ⟨v0, _ | _⟩⟩
    · simp at hs
    · exact ⟨v0, rfl⟩
    · simp at hs
  have hv0 := hlb 0 _ v0 rfl rfl
  cases hv0
  obtain ⟨arr, T, hc1, hc2, hc3, hc4⟩ := hr.blk nm _ hh
  obtain ⟨v8, hv8, hrv⟩ := hc4 0 _ 3 _ rfl rfl
  have hBs : w.cell? ⟨(ids nm).1, (ids nm).2 + 3, none⟩ = some v8 := by
    simp only [World.cell?, hc1]
    simpa using hv8
  have hBs' : W.cell? ⟨(ids nm).1, (ids nm).2 + 3, none⟩ = some v8 := by
    rw [cell_same (hW.same _ (Array.getElem?_eq_some_iff.1 hc1).1 fun x => x)]; exact hBs
  unfold bktsV at hrv
  cases hrv with
  | lst _ _ _ _ hd hcl =>
  have key : ∃ (sa : Option Addr) (b o cap : Nat) (cell : Nat → Value), v8 = .slice sa r.bkts.length cap ∧ (r.bkts ≠ [] → sa = some ⟨b, o, none⟩ ∧ b < w.heap.size ∧ ¬ Avoid F h ids b) ∧ ∀ i l, r.bkts[i]? = some l → w.cell? ⟨b, o + i, none⟩ = some (cell i) ∧ RepD (Avoid F h ids) w (itemsD l) (cell i) := by
    generalize hq : r.bkts.map bktRow = rows at hd
    cases hd with
    | emp _ a cap =>
      have hl : r.bkts = [] := by simpa using hq
      exact ⟨a, 0, 0, cap, fun _ => default, by rw [hl]; rfl, fun h => absurd hl h, fun i l hx => by rw [hl] at hx; simp at hx⟩
    | lst _ _ b o cap cell hcap hb hn hw hc hdd =>
      subst hq
      refine ⟨_, b, o, cap, fun i => cell i 0, by simp, fun _ => ⟨rfl, hb, hn⟩, fun i l hx => ?_⟩
      have h1 : (r.bkts.map bktRow)[i]? = some (bktRow l) := by simp [hx]
      have := hc i (bktRow l) 0 (itemsD l) h1 rfl
      simp only [Nat.mul_one, Nat.add_zero] at this
      exact ⟨this, hdd i (bktRow l) 0 (itemsD l) h1 rfl⟩
  obtain ⟨sa, b, o, cap, cell, rfl, hsa, hcell⟩ := key
  have hex : ∀ i, ∃ (ad : Option Addr) (cp bb oo : Nat), ∀ l, r.bkts[i]? = some l → w.cell? ⟨b, o + i, none⟩ = some (.slice ad l.length cp) ∧ (l ≠ [] → ad = some ⟨bb, oo, none⟩ ∧ bb < w.heap.size ∧ ¬ Avoid F h ids bb) ∧
      ∀ j x, l[j]? = some x → w.cell? ⟨bb, oo + j * 3, none⟩ = some (.int .i64 x.time) ∧ w.cell? ⟨bb, oo + j * 3 + 1, none⟩ = some (.int .i64 x.seq) ∧ w.cell? ⟨bb, oo + j * 3 + 2, none⟩ = some (.int .i64 x.slot) := by
    intro i
    cases hi : r.bkts[i]? with
    | none => exact ⟨none, 0, 0, 0, fun l e => by cases e⟩
    | some l =>
      obtain ⟨q1, q2⟩ := hcell i l hi
      obtain ⟨ad, cp, bb, oo, e1, e2, e3⟩ := dItem q2
      exact ⟨ad, cp, bb, oo, fun l' e => by cases e; exact ⟨by rw [q1, e1], e2, e3⟩⟩
  obtain ⟨ad, hex⟩ := Classical.skolem.1 hex
  obtain ⟨cp, hex⟩ := Classical.skolem.1 hex
  obtain ⟨bb, hex⟩ := Classical.skolem.1 hex
  obtain ⟨oo, hex⟩ := Classical.skolem.1 hex
  refine items1_in l dep (ids nm).1 ((ids nm).2) b o cap sa ad cp bb oo r.bkts hn hl J Jx hJ hJx hY (fun pre X hX => ?_) W (fun hne => (hsa hne).1) hBs' h0
  have hg := hJG pre X hX
  have hbs : ∀ {c : Nat} (a : Nat), c < w.heap.size → ¬ Avoid F h ids c → X.cell? ⟨c, a, none⟩ = w.cell? ⟨c, a, none⟩ := fun a hc hn => cell_same (hg.same _ hc fun x => hn (.inr x)) a
  refine ⟨fun i l hi => ?_, fun i l hi hne => ((hex i l hi).2.1 hne).1, fun i l j x hi hx => ?_, fun i l j x hi hx => ?_, fun i l j x hi hx => ?_⟩
  · have hne : r.bkts ≠ [] := by rintro e; rw [e] at hi; simp at hi
    obtain ⟨_, e1, e2⟩ := hsa hne
    rw [hbs _ e1 e2]; exact (hex i l hi).1
  all_goals
    have hne : l ≠ [] := by rintro rfl; simp at hx
    obtain ⟨_, e1, e2⟩ := (hex i l hi).2.1 hne
    rw [hbs _ e1 e2]
  · exact ((hex i l hi).2.2 j x hx).1
  · exact ((hex i l hi).2.2 j x hx).2.1
  · exact ((hex i l hi).2.2 j x hx).2.2
theorem itemsFC (r : Rng) : LSpec Try.prog 135 [r.v] [] 0 (.fn (.func 155) [] [.p 0 4 0 0]) [(0, rngB r)] 1 := by
  refine lspec tab_ok mix Try.func135 (by kernel_rfl) (by rfl) (by rfl) (by rfl) (by rfl) ?_
  ((conv => whnf); (repeat (first | ((first | refine z1 ?_ | refine z2 ?_ | refine z3 ?_ | refine idxB_at (by decide) rfl ?_ | refine atB_at (by decide) (by decide) ?_ | refine getB_lit _ rfl ?_ | refine z7 ?_); conv => whnf) | trivial)))
  refine .mk [(0, 64)] ?_
  ((conv => whnf); (repeat (first | ((first | refine z1 ?_ | refine z2 ?_ | refine z3 ?_ | refine idxB_at (by decide) rfl ?_ | refine atB_at (by decide) (by decide) ?_ | refine getB_lit _ rfl ?_ | refine z7 ?_); conv => whnf) | trivial)))
end Go.Proofs.Ytmihhkcbbdpnaaa.Abs
