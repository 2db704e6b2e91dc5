/- Laws of cancellations: many calls, none of which takes a mutex: states. -/
import Derived.Test.YtcffiehcdadimaaGreatJC
import Derived.Test.YtcffiehcdadimaaGreatC18
namespace Go.Proofs.YtcffiehcdadimaaGreat.Abs
open Go.Proofs
set_option maxRecDepth 10000
set_option linter.unusedSimpArgs false
set_option linter.unusedVariables false
def copO (o : Option COp) (a : Nat) : B :=
  match o with
  | none => .dat 10 []
  | some c => copR c a
/-- the family of twenty calls -/
def famL (cs : Nat → Option COp) : List (Nat × B) := (List.range 20).map fun j => (20 + j, copO (cs j) 384)
/-- all but call t -/
def famX (cs : Nat → Option COp) (t : Nat) : List (Nat × B) := ((List.range 20).filter fun j => !Nat.beq j t).map fun j => (20 + j, copO (cs j) 384)
theorem hAt_map (cs : Nat → Option COp) : ∀ (l : List Nat) (n : Nat), hAt (l.map fun j => (20 + j, copO (cs j) 384)) n = if 20 ≤ n ∧ n - 20 ∈ l then some (copO (cs (n - 20)) 384) else none
  | [], n => by simp [hAt]
  | j :: l, n => by
    simp only [List.map_cons, hAt]
    cases hb : Nat.beq n (20 + j) with
    | true =>
      have := Nat.eq_of_beq_eq_true hb
      rw [if_pos ⟨by omega, by rw [show n - 20 = j by omega]; simp⟩, show n - 20 = j by omega]
    | false =>
      have hne : n ≠ 20 + j := fun e => by rw [e, Nat.beq_refl] at hb; cases hb
      dsimp only
      rw [hAt_map cs l n]
      by_cases c : 20 ≤ n ∧ n - 20 ∈ l
      · rw [if_pos c, if_pos ⟨c.1, List.mem_cons_of_mem _ c.2⟩]
      · rw [if_neg c, if_neg fun x => c ⟨x.1, (List.mem_cons.1 x.2).resolve_left (by omega)⟩]
theorem fam_at (cs : Nat → Option COp) (n : Nat) : hAt (famL cs) n = if 20 ≤ n ∧ n < 40 then some (copO (cs (n - 20)) 384) else none := by
  unfold famL
  rw [hAt_map]
  by_cases c : 20 ≤ n ∧ n < 40
  · rw [if_pos c, if_pos ⟨c.1, List.mem_range.2 (by omega)⟩]
  · rw [if_neg c, if_neg fun x => c ⟨x.1, by have := List.mem_range.1 x.2; omega⟩]
theorem famX_at (cs : Nat → Option COp) (t n : Nat) : hAt (famX cs t) n = if 20 ≤ n ∧ n < 40 ∧ n ≠ 20 + t then some (copO (cs (n - 20)) 384) else none := by
  unfold famX
  rw [hAt_map]
  have hm : ∀ j, j ∈ (List.range 20).filter (fun j => !Nat.beq j t) ↔ j < 20 ∧ j ≠ t := fun j => by
    rw [List.mem_filter, List.mem_range]
    constructor
    · rintro ⟨h1, h2⟩
      exact ⟨h1, fun e => by subst e; rw [Nat.beq_refl] at h2; cases h2⟩
    · rintro ⟨h1, h2⟩
      refine ⟨h1, ?_⟩
      cases hb : Nat.beq j t with
      | true => exact absurd (Nat.eq_of_beq_eq_true hb) h2
      | false => rfl
  by_cases c : 20 ≤ n ∧ n < 40 ∧ n ≠ 20 + t
  · rw [if_pos c, if_pos ⟨c.1, (hm _).2 ⟨by omega, by omega⟩⟩]
  · rw [if_neg c, if_neg fun x => c (by have := (hm _).1 x.2; omega)]
/-- the family with call t in front -/
theorem fam_split (cs : Nat → Option COp) {t : Nat} (ht : t < 20) : hAt (famL cs) = hAt ([(20 + t, copO (cs t) 384)] ++ famX cs t) := by
  funext n
  rw [fam_at, hAt_app]
  by_cases e : n = 20 + t
  · subst e
    rw [if_pos (by omega)]
    refine (joinH_l ?_).symm
    show (match Nat.beq (20 + t) (20 + t) with
      | true => some (copO (cs t) 384)
      | false => none) = _
    rw [Nat.beq_refl, show 20 + t - 20 = t by omega]
  · have hn : hAt [(20 + t, copO (cs t) 384)] n = none := by
      show (match Nat.beq n (20 + t) with
        | true => some (copO (cs t) 384)
        | false => none) = none
      cases hb : Nat.beq n (20 + t) with
      | true => exact absurd (Nat.eq_of_beq_eq_true hb) e
      | false => rfl
    rw [joinH_r hn, famX_at]
    by_cases c : 20 ≤ n ∧ n < 40
    · rw [if_pos c, if_pos ⟨c.1, c.2, e⟩]
    · rw [if_neg c, if_neg fun x => c ⟨x.1, x.2.1⟩]
theorem famX_same {cs ds : Nat → Option COp} {t : Nat} (h : ∀ j, j ≠ t → ds j = cs j) : famX ds t = famX cs t := by
  unfold famX
  refine List.map_congr_left fun j hj => ?_
  have h2 := (List.mem_filter.1 hj).2
  rw [h j fun e => by subst e; rw [Nat.beq_refl] at h2; cases h2]
theorem fam_next {cs ds : Nat → Option COp} {t : Nat} (ht : t < 20) (h : ∀ j, j ≠ t → ds j = cs j) : hAt (famL ds) = hAt ([(20 + t, copO (ds t) 384)] ++ famX cs t) := by
  rw [fam_split ds ht, famX_same h]
theorem copR_ren {ρ : Nat → Nat} {a : Nat} (h : ρ a = a) (c : COp) : renB ρ (copR c a) = copR c a := by
  unfold copR
  simp only [renB, List.map_cons, List.map_nil, renVs, renV, h]
theorem copR_below {a b : Nat} (h : a < b) (c : COp) : (copR c a).Below (Lt b) := by
  intro row hr x hx
  rw [List.mem_singleton] at hr
  subst hr
  simp only [List.mem_cons, List.not_mem_nil, or_false] at hx
  rcases hx with rfl | rfl | rfl | rfl | rfl | rfl | rfl | rfl | rfl | rfl <;> first | exact .p _ _ _ _ h | exact .c _
theorem copO_ren {ρ : Nat → Nat} {a : Nat} (h : ρ a = a) (o : Option COp) : renB ρ (copO o a) = copO o a := by
  cases o
  · rfl
  · exact copR_ren h _
theorem copO_below {a b : Nat} (h : a < b) (o : Option COp) : (copO o a).Below (Lt b) := by
  cases o
  · exact trivial
  · exact copR_below h _
theorem famX_below (cs : Nat → Option COp) (t : Nat) {b : Nat} (hb : 384 < b) : ∀ p ∈ famX cs t, p.1 < b ∧ p.2.Below (Lt b) := by
  intro p hp
  obtain ⟨j, hj, rfl⟩ := List.mem_map.1 hp
  have := List.mem_range.1 (List.mem_filter.1 hj).1
  exact ⟨by dsimp only; omega, copO_below hb _⟩
theorem famX_fix (cs : Nat → Option COp) (t : Nat) {b : Nat} {ρ : List (Nat × Nat)} (hb : 384 < b) (h384 : ren1 ρ 384 = 384) (hr : ∀ j, j < 20 → j ≠ t → ren1 ρ (20 + j) = 20 + j) : ∀ p ∈ famX cs t, p.1 < b ∧ p.2.Below (Lt b) ∧ ren1 ρ p.1 = p.1 ∧ renB (ren1 ρ) p.2 = p.2 := by
  intro p hp
  obtain ⟨h1, h2⟩ := famX_below cs t hb p hp
  obtain ⟨j, hj, rfl⟩ := List.mem_map.1 hp
  obtain ⟨hj1, hj2⟩ := List.mem_filter.1 hj
  refine ⟨h1, h2, hr j (List.mem_range.1 hj1) fun e => ?_, copO_ren h384 _⟩
  subst e
  rw [Nat.beq_refl] at hj2
  cases hj2
/-- the pointers to the first m calls -/
def ptrsL (m : Nat) : List (List V) := (List.range m).map fun j => [V.p (20 + j) 10 0 0]
theorem ptrs_len (m : Nat) : (ptrsL m).length = m := by simp [ptrsL]
theorem ptrs_split {m t : Nat} (h : t < m) : ∃ rest, ptrsL m = ptrsL t ++ [V.p (20 + t) 10 0 0] :: rest := by
  refine ⟨((List.range (m - t - 1)).map fun j => [V.p (20 + (t + 1 + j)) 10 0 0]), ?_⟩
  unfold ptrsL
  apply List.ext_getElem?
  intro i
  rw [List.getElem?_append]
  simp only [List.getElem?_map, List.length_map, List.length_range]
  by_cases c : i < t
  · rw [if_pos c, List.getElem?_range (by omega), List.getElem?_range c]
  · rw [if_neg c]
    by_cases d : i = t
    · subst d
      rw [List.getElem?_range h, Nat.sub_self]; rfl
    · obtain ⟨k, hk⟩ : ∃ k, i - t = k + 1 := ⟨i - t - 1, by omega⟩
      rw [hk, List.getElem?_cons_succ, List.getElem?_map]
      by_cases e : i < m
      · rw [List.getElem?_range e, List.getElem?_range (by omega)]
        simp only [Option.map_some]
        rw [show t + 1 + k = i by omega]
      · rw [List.getElem?_eq_none (by simp; omega), List.getElem?_eq_none (by simp; omega)]; rfl
/-- the slice of the calls -/
theorem boPtrs {ρ : Nat → Nat} {b : Nat} {K : Prop} {m : Nat} {B' : Option B} (k : K) (hB : B' = some (.rows 1 (ptrsL m))) (hm : m ≤ 20) (hr : ∀ j, j < m → ρ (20 + j) = 20 + j) (hb : 40 ≤ b) : BO ρ b (.rows 1 (ptrsL m)) B' K := by
  refine .mk _ hB ?_ ?_ k
  · unfold ptrsL
    simp only [renB, List.map_map]
    congr 1
    refine List.map_congr_left fun j hj => ?_
    have := hr j (List.mem_range.1 hj)
    simp only [Function.comp, renVs, renV, this]
  · intro row hrow x hx
    obtain ⟨j, hj, rfl⟩ := List.mem_map.1 hrow
    rw [List.mem_singleton] at hx
    subst hx
    have := List.mem_range.1 hj
    exact .p _ _ _ _ (show 20 + j < b by omega)
def endsD (es : Nat → Bool) (m : Nat) : List (List D) := (List.range m).map fun j => [.c (.bool (es j))]
theorem ends_len (es : Nat → Bool) (m : Nat) : (endsD es m).length = m := by simp [endsD]
theorem ends_get (es : Nat → Bool) {m j : Nat} (h : j < m) : (endsD es m)[j]? = some [.c (.bool (es j))] := by
  unfold endsD
  rw [List.getElem?_map, List.getElem?_range h]; rfl
theorem ends_set (es : Nat → Bool) {m t : Nat} (h : t < m) (v : Bool) : (endsD es m).set t [.c (.bool v)] = endsD (upd es t v) m := by
  apply List.ext_getElem?
  intro j
  rw [List.getElem?_set, ends_len]
  by_cases c : j < m
  · rw [ends_get _ c, ends_get _ c]
    by_cases e : t = j
    · subst e; rw [if_pos rfl, if_pos h, upd_same]
    · rw [if_neg e, upd_ne _ _ _ _ (fun x => e x.symm)]
  · rw [List.getElem?_eq_none (by rw [ends_len]; omega), List.getElem?_eq_none (by rw [ends_len]; omega)]
    by_cases e : t = j
    · exact absurd (e ▸ h) c
    · rw [if_neg e]
theorem ends_snoc (es : Nat → Bool) (m : Nat) : endsD es (m + 1) = endsD es m ++ [[.c (.bool (es m))]] := by
  unfold endsD
  rw [List.range_succ, List.map_append]; rfl

/-! ### the log -/
/-- a swap that succeeded -/
def Acc.won (a : Acc) : Bool := decide (a.kind = 3) && a.ok
/-- an entry that a cancellation may write -/
structure AccOk (m : Nat) (a : Acc) : Prop where
  kind : a.kind = 1 ∨ a.kind = 3
  th : 0 ≤ a.th ∧ a.th < m
  idx : 1 ≤ a.idx
  won : a.won = true → (0 ≤ a.old ∧ a.old ≤ 967) ∧ a.old % 4 = 1 ∧ a.new = 4 * (a.old / 4) + 3
/-- the thread has a swap that succeeded in l -/
def wrote (l : List Acc) (t : Int) : Prop := ∃ a ∈ l, a.won = true ∧ a.th = t
/-- many calls: rounds, the store, the calls, which have ended -/
structure Lf where
  i : Nat
  s : Sto
  cs : Nat → COp
  es : Nat → Bool
structure LfOk (m n L : Nat) (S : List Item) (l0 : List Acc) (v0 : Int) (x : Lf) : Prop where
  i : x.i ≤ L
  wds : Wds x.s 967
  len : x.s.slots.length = n
  lgl : x.s.m.log.length ≤ 2420 + x.i
  viol : x.s.m.viol = v0
  log : ∃ l1, x.s.m.log = l0 ++ l1 ∧ (∀ a ∈ l1, AccOk m a) ∧ (l1.filter Acc.won).Pairwise (fun a b => a.th ≠ b.th) ∧ ∀ t : Nat, t < m → wrote l1 t → x.es t = true
  cok : ∀ t, t < m → x.es t = false → COk (x.cs t) 967 ∧ (x.cs t).th = t ∧ ((x.cs t).ph = 1 → (x.cs t).seen % 4 = 1) ∧ (x.cs t).ph ≠ 2
/-- a round of thread t -/
def Lf.next (x : Lf) (t : Nat) : Lf :=
  { i := x.i + 1, s := (cStep (x.cs t) x.s).2, cs := upd x.cs t (cStep (x.cs t) x.s).1, es := upd x.es t (decide ((cStep (x.cs t) x.s).1.ph = 2)) }
theorem cStep_log (c : COp) (s : Sto) (hl : s.m.words.length = s.slots.length + 1) : (cStep c s).2.m.log = s.m.log ∨ ∃ a, (cStep c s).2.m.log = s.m.log ++ [a] ∧ a.th = c.th ∧ 1 ≤ a.idx ∧
    (a.kind = 1 ∨ (a.kind = 3 ∧ c.ph = 1 ∧ (a.ok = true → a.old = c.seen ∧ a.new = c.new ∧ (cStep c s).1.ph = 2))) := by
  unfold cStep
  by_cases h : c.has s
  · rw [if_pos h]
    by_cases hp : c.ph = 1
    · rw [if_pos hp]
      right
      dsimp only
      unfold Mem.cas
      by_cases e : s.m.word (c.sl + 1) = c.seen
      · rw [if_pos e, decide_eq_true e]
        refine ⟨_, rfl, rfl, by show (1 : Int) ≤ ((c.sl + 1 : Nat) : Int); omega, .inr ⟨rfl, hp, fun _ => ⟨e, rfl, rfl⟩⟩⟩
      · rw [if_neg e]
        exact ⟨_, rfl, rfl, by show (1 : Int) ≤ ((c.sl + 1 : Nat) : Int); omega, .inr ⟨rfl, hp, fun x => by cases x⟩⟩
    · rw [if_neg hp]
      right
      exact ⟨_, rfl, rfl, by show (1 : Int) ≤ ((c.sl + 1 : Nat) : Int); omega, .inl rfl⟩
  · rw [if_neg h]
    exact .inl rfl
theorem cStep_seen {c : COp} {s : Sto} (h : (cStep c s).1.ph = 1) (h2 : c.ph ≠ 2) : (cStep c s).1.seen % 4 = 1 := by
  by_cases hh : c.has s
  · by_cases hp : c.ph = 1
    · rw [cStep_swap hh hp] at h
      unfold COp.swap at h
      split at h <;> cases h
    · rw [cStep_load hh hp] at h ⊢
      unfold COp.load at h ⊢
      split at h
      · cases h
      · next q1 =>
        rw [if_neg q1]
        split at h
        · exact absurd h hp
        · next q2 =>
          rw [if_neg q2]
          have q3 : staleW (s.m.word (c.sl + 1)) (genH c.cl.h) = false := by
            cases hs : staleW (s.m.word (c.sl + 1)) (genH c.cl.h) with
            | false => rfl
            | true => exact absurd hs q1
          unfold staleW at q3
          simp only [Bool.or_eq_false_iff, Bool.not_eq_false', decide_eq_true_eq, decide_eq_false_iff_not] at q3
          show s.m.word (c.sl + 1) % 4 = 1
          omega
  · rw [cStep_none hh] at h
    cases h
theorem lf_next {m n L : Nat} {S : List Item} {l0 : List Acc} {v0 : Int} {x : Lf} (hx : LfOk m n L S l0 v0 x) (hL : L ≤ 200) (hi : x.i < L) {t : Nat} (ht : t < m) (he : x.es t = false) : LfOk m n L S l0 v0 (x.next t) := by
  obtain ⟨h1, h2, h3, h4, h5, ⟨l1, g1, g2, g3, g4⟩, h7⟩ := hx
  obtain ⟨hc, hth, hsn, hp2⟩ := h7 t ht he
  obtain ⟨d1, d2, d3, _, _, _, _, d8, _, _, d7⟩ := cStep_same (x.cs t) x.s
  have hw := h2.step hc (by decide) (by omega)
  have hlog := cStep_log (x.cs t) x.s h2.lt
  have hck := COk.step h2 hc hp2
  have hse : (cStep (x.cs t) x.s).1.ph = 1 → (cStep (x.cs t) x.s).1.seen % 4 = 1 := fun e => cStep_seen e hp2
  unfold Lf.next
  obtain ⟨c1, s1, hr⟩ : ∃ c1 s1, cStep (x.cs t) x.s = (c1, s1) := ⟨_, _, rfl⟩
  rw [hr] at d1 d2 d3 d7 d8 hw hlog hck hse ⊢
  dsimp only at d1 d2 d3 d7 d8 hw hlog hck hse ⊢
  have hnw : ¬ wrote l1 t := fun hwr => by have := g4 t ht hwr; rw [he] at this; cases this
  refine ⟨hi, hw, by dsimp only; rw [d3]; exact h3, by dsimp only; omega, by dsimp only; rw [d8]; exact h5, ?_, fun j hj hej => ?_⟩
  · dsimp only
    rcases hlog with e | ⟨a, e, a1, a2, a3⟩
    · refine ⟨l1, by rw [e, g1], g2, g3, fun j hj hwr => ?_⟩
      rw [upd_ne _ _ _ _ fun q => hnw (by rw [← q]; exact hwr)]
      exact g4 j hj hwr
    · refine ⟨l1 ++ [a], by rw [e, g1, List.append_assoc], fun b hb => ?_, ?_, fun j hj hwr => ?_⟩
      · rcases List.mem_append.1 hb with hb | hb
        · exact g2 b hb
        · rw [List.mem_singleton] at hb
          subst hb
          refine ⟨a3.imp id (·.1), by rw [a1, hth]; omega, a2, fun hwon => ?_⟩
          unfold Acc.won at hwon
          rw [Bool.and_eq_true] at hwon
          have hk3 : b.kind = 3 := by simpa using hwon.1
          rcases a3 with a3 | ⟨_, a4, a5⟩
          · omega
          · obtain ⟨b1, b2, _⟩ := a5 hwon.2
            have := hc.seen a4
            refine ⟨by rw [b1]; omega, by rw [b1]; exact hsn a4, ?_⟩
            rw [b2, b1]; rfl
      · rw [List.filter_append]
        refine List.pairwise_append.2 ⟨g3, ?_, fun b hb d hd => ?_⟩
        · refine (List.pairwise_singleton (fun a b : Acc => a.th ≠ b.th) a).sublist List.filter_sublist
        · obtain ⟨hb1, hb2⟩ := List.mem_filter.1 hb
          obtain ⟨hd1, hd2⟩ := List.mem_filter.1 hd
          rw [List.mem_singleton] at hd1
          subst hd1
          intro e2
          exact hnw ⟨b, hb1, hb2, by rw [e2, a1, hth]⟩
      · obtain ⟨b, hb, hb2, hb3⟩ := hwr
        rcases List.mem_append.1 hb with hb | hb
        · have hwr : wrote l1 j := ⟨b, hb, hb2, hb3⟩
          rw [upd_ne _ _ _ _ fun q => hnw (by rw [← q]; exact hwr)]
          exact g4 j hj hwr
        · rw [List.mem_singleton] at hb
          subst hb
          have hjt : j = t := by rw [a1, hth] at hb3; omega
          subst hjt
          rw [upd_same]
          unfold Acc.won at hb2
          rw [Bool.and_eq_true] at hb2
          have hk3 : b.kind = 3 := by simpa using hb2.1
          rcases a3 with a3 | ⟨_, a4, a5⟩
          · omega
          · exact decide_eq_true (a5 hb2.2).2.2
  · dsimp only at hej ⊢
    by_cases e : j = t
    · subst e
      rw [upd_same] at hej ⊢
      have hne : c1.ph ≠ 2 := fun e => by rw [decide_eq_true e] at hej; cases hej
      exact ⟨hck, d1.trans hth, hse, hne⟩
    · rw [upd_ne _ _ _ _ e] at hej ⊢
      exact h7 j hj hej
theorem lf_skip {m n L : Nat} {S : List Item} {l0 : List Acc} {v0 : Int} {x : Lf} (hx : LfOk m n L S l0 v0 x) (hi : x.i < L) : LfOk m n L S l0 v0 { x with i := x.i + 1 } :=
  ⟨hi, hx.wds, hx.len, by have := hx.lgl; dsimp only; omega, hx.viol, hx.log, hx.cok⟩
end Go.Proofs.YtcffiehcdadimaaGreat.Abs
