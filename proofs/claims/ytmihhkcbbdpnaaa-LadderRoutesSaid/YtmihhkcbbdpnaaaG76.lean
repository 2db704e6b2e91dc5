/- Laws of ladders as contracts: where an item goes. -/
import Derived.Test.YtmihhkcbbdpnaaaG74
namespace Go.Proofs.Ytmihhkcbbdpnaaa.Abs
open Go.Proofs
set_option maxRecDepth 10000
set_option linter.unusedSimpArgs false
set_option linter.unusedVariables false
theorem route_put : ∀ (rs : List Rng) (b : Int) (k i : Nat) (it : Item), RChain b k rs → it.time < b → it.time ≤ 1152921504606846976 → (rs.findIdx? fun r => !decide (it.time < r.at r.cur)) = some i →
    ∃ r, rs[i]? = some r ∧ (putR r it).1.items.length = r.items.length + 1
  | [], b, k, i, it, _, _, _, h => by simp at h
  | r :: rs, b, k, i, it, hc, hb, ht, h => by
    rw [List.findIdx?_cons] at h
    split at h
    · next hp =>
      cases h
      have hp : r.at r.cur ≤ it.time := by simpa using hp
      obtain ⟨g1, g2, _⟩ := putS_good hc.1 hp hb ht
      exact ⟨r, rfl, g2.length_eq⟩
    · next hp =>
      have hp : it.time < r.at r.cur := by simpa using hp
      obtain ⟨j, hj, rfl⟩ := Option.map_eq_some_iff.1 h
      exact route_put rs (min b (r.at r.cur)) (k + 1) j it hc.2 (by omega) ht hj
set_option maxHeartbeats 2000000 in
theorem lRoutes (ops : List Op8) (ho : ∀ o ∈ ops, o.Ok) (o : Op8) (hok : o.Ok) : PSpec Try.prog 19 [ops8V ops, o.v] (V.bool true) := by
  have hmade := madeC ops ho (min ops.length 150) rfl
  obtain ⟨S, hI⟩ := inv8_all ho (min ops.length 150) (by omega) (by omega)
  have hL := hI.toL
  have hn : (s8At ops (min ops.length 150)).seq.toNat ≤ 150 := by have := hI.seq; omega
  have hlast := hI.last
  have hseq := hI.seq.1
  have ht := timeO_ok hok hlast
  generalize s8At ops (min ops.length 150) = s at *
  obtain ⟨l, seq, last⟩ := s
  dsimp only at *
  clear hI
  have hA := hL.ins (it := ⟨timeO o last, seq, 0⟩) ht hseq (Int.le_refl _)
  have hic := insertC8 hL (by omega) (it := ⟨timeO o last, seq, 0⟩) ht (Int.le_refl _)
  have hlen := hL.rel.perm.length_eq
  have hls := hL.len
  have hts := hL.rel.good.ts
  have hcs := hL.comp
  have hms := hL.mlow
  have hcost := hL.cost
  have hdepth := hL.rel.good.depth
  have hok2 := fun r hr => ok_of hL.rel.good (hL.sz (by omega)) r hr
  have hit2 : l.top.length ≤ l.items.length ∧ l.bottom.length ≤ l.items.length := by unfold Lad.items; simp only [List.length_append]; omega
  have htime : (⟨timeO o last, seq, 0⟩ : Item).time = timeO o last := rfl
  have htc := timeC o hok last hlast
  generalize timeO o last = tm at *
  have hbm := hL.small (by omega)
  have m1 : (insLad l ⟨tm, seq, 0⟩).topStart = l.topStart := by unfold insLad; split; rfl; split <;> rfl
  have m2 : (insLad l ⟨tm, seq, 0⟩).rungs.length = l.rungs.length := by unfold insLad; split; rfl; split <;> simp
  have m3 : (insLad l ⟨tm, seq, 0⟩).moves = l.moves + 1 := by unfold insLad; split; rfl; split <;> rfl
  have m4 : l.topStart ≤ tm → (insLad l ⟨tm, seq, 0⟩).top = l.top ++ [⟨tm, seq, 0⟩] ∧ (insLad l ⟨tm, seq, 0⟩).bottom = l.bottom ∧ (insLad l ⟨tm, seq, 0⟩).compares = l.compares + 1 := fun g => by
    unfold insLad; rw [if_pos g]; exact ⟨rfl, rfl, rfl⟩
  have m5 : ¬ l.topStart ≤ tm → ∀ i, (l.rungs.findIdx? fun r => !decide (tm < r.at r.cur)) = some i → (insLad l ⟨tm, seq, 0⟩).top = l.top ∧ (insLad l ⟨tm, seq, 0⟩).bottom = l.bottom ∧ (insLad l ⟨tm, seq, 0⟩).compares = l.compares + 1 + (i + 1) ∧ (insLad l ⟨tm, seq, 0⟩).rungs = l.rungs.modify i fun r => (putR r ⟨tm, seq, 0⟩).1 := fun g i hi => by
    unfold insLad; rw [if_neg g]; dsimp only; rw [hi]; exact ⟨rfl, rfl, rfl, rfl⟩
  have m6 : ¬ l.topStart ≤ tm → (l.rungs.findIdx? fun r => !decide (tm < r.at r.cur)) = none → (insLad l ⟨tm, seq, 0⟩).top = l.top ∧ (insLad l ⟨tm, seq, 0⟩).bottom = insI l.bottom ⟨tm, seq, 0⟩ ∧ (insLad l ⟨tm, seq, 0⟩).compares = l.compares + 1 + l.rungs.length := fun g hi => by
    unfold insLad; rw [if_neg g]; dsimp only; rw [hi]; exact ⟨rfl, rfl, rfl⟩
  have hAc := hA.rel.good.chain
  have hAs := hA.small (by omega)
  have hAl := hA.rel.perm.length_eq
  have hiA := (insI_perm S ⟨tm, seq, 0⟩).length_eq
  rw [List.length_cons] at hiA
  generalize insLad l ⟨tm, seq, 0⟩ = m at *
  refine pspec tab_ok mix Try.func19 (by kernel_rfl) rfl rfl ?_
  ((conv => whnf); (repeat (first | ((first | refine z1 ?_ | refine z2 ?_ | refine z3 ?_ | refine idxB_at (by decide) rfl ?_ | refine atB_at (by decide) (by decide) ?_ | refine getB_lit _ rfl ?_ | refine z7 ?_); conv => whnf) | exact True.intro)))
  refine callB headC8 ?_
  ((conv => whnf); (repeat (first | ((first | refine z1 ?_ | refine z2 ?_ | refine z3 ?_ | refine idxB_at (by decide) rfl ?_ | refine atB_at (by decide) (by decide) ?_ | refine getB_lit _ rfl ?_ | refine z7 ?_); conv => whnf) | exact True.intro)))
  refine callB hmade ?_
  ((conv => whnf); (repeat (first | ((first | refine z1 ?_ | refine z2 ?_ | refine z3 ?_ | refine idxB_at (by decide) rfl ?_ | refine atB_at (by decide) (by decide) ?_ | refine getB_lit _ rfl ?_ | refine z7 ?_); conv => whnf) | exact True.intro)))
  refine callB htc ?_
  ((conv => whnf); (repeat (first | ((first | refine z1 ?_ | refine z2 ?_ | refine z3 ?_ | refine idxB_at (by decide) rfl ?_ | refine atB_at (by decide) (by decide) ?_ | refine getB_lit _ rfl ?_ | refine z7 ?_); conv => whnf) | exact True.intro)))
  refine callB hic ?_
  ((conv => whnf); (repeat (first | ((first | refine z1 ?_ | refine z2 ?_ | refine z3 ?_ | refine idxB_at (by decide) rfl ?_ | refine atB_at (by decide) (by decide) ?_ | refine getB_lit _ rfl ?_ | refine z7 ?_); conv => whnf) | exact True.intro)))
  rw [show (!decide (m.topStart = l.topStart)) = false by simp [m1]]
  ((conv => whnf); (repeat (first | ((first | refine z1 ?_ | refine z2 ?_ | refine z3 ?_ | refine idxB_at (by decide) rfl ?_ | refine atB_at (by decide) (by decide) ?_ | refine getB_lit _ rfl ?_ | refine z7 ?_); conv => whnf) | exact True.intro)))
  rw [show (!decide (((m.rungs.map Rng.row).length : Int) = ((l.rungs.map Rng.row).length : Int))) = false by simp [m2]]
  ((conv => whnf); (repeat (first | ((first | refine z1 ?_ | refine z2 ?_ | refine z3 ?_ | refine idxB_at (by decide) rfl ?_ | refine atB_at (by decide) (by decide) ?_ | refine getB_lit _ rfl ?_ | refine z7 ?_); conv => whnf) | exact True.intro)))
  rw [show (!decide (m.moves = l.moves + 1)) = false by simp [m3]]
  ((conv => whnf); (repeat (first | ((first | refine z1 ?_ | refine z2 ?_ | refine z3 ?_ | refine idxB_at (by decide) rfl ?_ | refine atB_at (by decide) (by decide) ?_ | refine getB_lit _ rfl ?_ | refine z7 ?_); conv => whnf) | exact True.intro)))
  refine br_dec (fun g => ?_) (fun g => ?_) <;> ((conv => whnf); (repeat (first | ((first | refine z1 ?_ | refine z2 ?_ | refine z3 ?_ | refine idxB_at (by decide) rfl ?_ | refine atB_at (by decide) (by decide) ?_ | refine getB_lit _ rfl ?_ | refine z7 ?_); conv => whnf) | exact True.intro)))
  · obtain ⟨e1, e2, e3⟩ := m4 g
    rw [e1, e2, e3]
    ((conv => whnf); (repeat (first | ((first | refine z1 ?_ | refine z2 ?_ | refine z3 ?_ | refine idxB_at (by decide) rfl ?_ | refine atB_at (by decide) (by decide) ?_ | refine getB_lit _ rfl ?_ | refine z7 ?_); conv => whnf) | exact True.intro)))
    refine wrB (by simp only [List.length_map]; omega) ?_
    ((conv => whnf); (repeat (first | ((first | refine z1 ?_ | refine z2 ?_ | refine z3 ?_ | refine idxB_at (by decide) rfl ?_ | refine atB_at (by decide) (by decide) ?_ | refine getB_lit _ rfl ?_ | refine z7 ?_); conv => whnf) | exact True.intro)))
    rw [show decide ((((l.top ++ [(⟨tm, seq, 0⟩ : Item)]).map Item.row).length : Int) = ((l.top.map Item.row).length : Int) + 1) = true by simp]
    ((conv => whnf); (repeat (first | ((first | refine z1 ?_ | refine z2 ?_ | refine z3 ?_ | refine idxB_at (by decide) rfl ?_ | refine atB_at (by decide) (by decide) ?_ | refine getB_lit _ rfl ?_ | refine z7 ?_); conv => whnf) | exact True.intro)))
    refine idxB_eq l.top.length ⟨tm, seq, 0⟩ (by simp) (by simp) ?_
    ((conv => whnf); (repeat (first | ((first | refine z1 ?_ | refine z2 ?_ | refine z3 ?_ | refine idxB_at (by decide) rfl ?_ | refine atB_at (by decide) (by decide) ?_ | refine getB_lit _ rfl ?_ | refine z7 ?_); conv => whnf) | exact True.intro)))
    refine deqB [true, true, true] (by kernel_rfl) rfl rfl rfl ?_
    ((conv => whnf); (repeat (first | ((first | refine z1 ?_ | refine z2 ?_ | refine z3 ?_ | refine idxB_at (by decide) rfl ?_ | refine atB_at (by decide) (by decide) ?_ | refine getB_lit _ rfl ?_ | refine z7 ?_); conv => whnf) | exact True.intro)))
    rw [show (decide (tm = tm) && (decide (seq = seq) && (decide ((0 : Int) = 0) && true))) = true by simp]
    ((conv => whnf); (repeat (first | ((first | refine z1 ?_ | refine z2 ?_ | refine z3 ?_ | refine idxB_at (by decide) rfl ?_ | refine atB_at (by decide) (by decide) ?_ | refine getB_lit _ rfl ?_ | refine z7 ?_); conv => whnf) | exact True.intro)))
    refine slB 0 l.top.length rfl (by simp [isHi]) (by simp) ?_
    rw [show (((l.top ++ [(⟨tm, seq, 0⟩ : Item)]).map Item.row).drop 0).take (l.top.length - 0) = l.top.map Item.row by simp]
    ((conv => whnf); (repeat (first | ((first | refine z1 ?_ | refine z2 ?_ | refine z3 ?_ | refine idxB_at (by decide) rfl ?_ | refine atB_at (by decide) (by decide) ?_ | refine getB_lit _ rfl ?_ | refine z7 ?_); conv => whnf) | exact True.intro)))
    refine dcallC (sameItemsC l.top (by omega)) ?_
    ((conv => whnf); (repeat (first | ((first | refine z1 ?_ | refine z2 ?_ | refine z3 ?_ | refine idxB_at (by decide) rfl ?_ | refine atB_at (by decide) (by decide) ?_ | refine getB_lit _ rfl ?_ | refine z7 ?_); conv => whnf) | exact True.intro)))
    refine dcallC (sameItemsC l.bottom (by omega)) ?_
    ((conv => whnf); (repeat (first | ((first | refine z1 ?_ | refine z2 ?_ | refine z3 ?_ | refine idxB_at (by decide) rfl ?_ | refine atB_at (by decide) (by decide) ?_ | refine getB_lit _ rfl ?_ | refine z7 ?_); conv => whnf) | exact True.intro)))
    exact .same (congrArg (fun b => V.c (.bool b)) (decide_eq_true rfl))
  refine loopB tab_ok mix [5, 6, 9, 10] [640, 1216, 1536] (fun i : Nat => [(11, V.int i)]) (fun i => []) (fun i => i ≤ l.rungs.length ∧ ∀ r ∈ l.rungs.take i, tm < r.at r.cur) (fun i => l.rungs.length - i) [] 0 rfl ⟨by omega, by simp⟩ (by ((conv => whnf); (repeat (first | ((first | refine z1 ?_ | refine z2 ?_ | refine z3 ?_ | refine idxB_at (by decide) rfl ?_ | refine atB_at (by decide) (by decide) ?_ | refine getB_lit _ rfl ?_ | refine z7 ?_); conv => whnf) | exact True.intro)))) ?_
  rintro i ⟨h1, h2⟩
  ((conv => whnf); (repeat (first | ((first | refine z1 ?_ | refine z2 ?_ | refine z3 ?_ | refine idxB_at (by decide) rfl ?_ | refine atB_at (by decide) (by decide) ?_ | refine getB_lit _ rfl ?_ | refine z7 ?_); conv => whnf) | exact True.intro)))
  refine br_dec (fun u => ?_) (fun u => ?_) <;> ((conv => whnf); (repeat (first | ((first | refine z1 ?_ | refine z2 ?_ | refine z3 ?_ | refine idxB_at (by decide) rfl ?_ | refine atB_at (by decide) (by decide) ?_ | refine getB_lit _ rfl ?_ | refine z7 ?_); conv => whnf) | exact True.intro)))
  · have u' : i < l.rungs.length := by simpa using u
    obtain ⟨r, hr⟩ := get_lt u'
    have hro := (hok2 r (List.mem_of_getElem? hr)).1
    have hbl := hbm.each r (List.mem_of_getElem? hr)
    refine idxB hr ?_
    ((conv => whnf); (repeat (first | ((first | refine z1 ?_ | refine z2 ?_ | refine z3 ?_ | refine idxB_at (by decide) rfl ?_ | refine atB_at (by decide) (by decide) ?_ | refine getB_lit _ rfl ?_ | refine z7 ?_); conv => whnf) | exact True.intro)))
    refine dcallB (refCurrentC r hro.fits) ?_
    ((conv => whnf); (repeat (first | ((first | refine z1 ?_ | refine z2 ?_ | refine z3 ?_ | refine idxB_at (by decide) rfl ?_ | refine atB_at (by decide) (by decide) ?_ | refine getB_lit _ rfl ?_ | refine z7 ?_); conv => whnf) | exact True.intro)))
    refine br_dec (fun v => ?_) (fun v => ?_) <;> ((conv => whnf); (repeat (first | ((first | refine z1 ?_ | refine z2 ?_ | refine z3 ?_ | refine idxB_at (by decide) rfl ?_ | refine atB_at (by decide) (by decide) ?_ | refine getB_lit _ rfl ?_ | refine z7 ?_); conv => whnf) | exact True.intro)))
    · have hfi : l.rungs.findIdx? (fun r => !decide (tm < r.at r.cur)) = some i := by
        rw [List.findIdx?_eq_some_iff_getElem]
        obtain ⟨hl, hr'⟩ := List.getElem?_eq_some_iff.1 hr
        refine ⟨hl, by rw [hr']; simpa using v, fun j hj => ?_⟩
        have := h2 l.rungs[j] (List.mem_take_iff_getElem.2 ⟨j, by omega, rfl⟩)
        simpa using this
      obtain ⟨e1, e2, e3, e4⟩ := m5 g i hfi
      obtain ⟨r', hr', hpl⟩ := route_put l.rungs l.topStart 0 i ⟨tm, seq, 0⟩ hL.rel.good.chain (show tm < l.topStart by omega) ht.2 hfi
      rw [hr] at hr'
      cases hr'
      have hmr : m.rungs[i]? = some (putR r ⟨tm, seq, 0⟩).1 := by rw [e4, List.getElem?_modify, hr]; simp
      have hb2 := hAs.each _ (List.mem_of_getElem? hmr)
      have hle := rung_items_le (List.mem_of_getElem? hr)
      rw [e1, e2, e3]
      refine idxB hmr ?_
      ((conv => whnf); (repeat (first | ((first | refine z1 ?_ | refine z2 ?_ | refine z3 ?_ | refine idxB_at (by decide) rfl ?_ | refine atB_at (by decide) (by decide) ?_ | refine getB_lit _ rfl ?_ | refine z7 ?_); conv => whnf) | exact True.intro)))
      refine dcallB (refRngLenC (putR r ⟨tm, seq, 0⟩).1 hb2 (by omega)) ?_
      ((conv => whnf); (repeat (first | ((first | refine z1 ?_ | refine z2 ?_ | refine z3 ?_ | refine idxB_at (by decide) rfl ?_ | refine atB_at (by decide) (by decide) ?_ | refine getB_lit _ rfl ?_ | refine z7 ?_); conv => whnf) | exact True.intro)))
      refine idxB hr ?_
      ((conv => whnf); (repeat (first | ((first | refine z1 ?_ | refine z2 ?_ | refine z3 ?_ | refine idxB_at (by decide) rfl ?_ | refine atB_at (by decide) (by decide) ?_ | refine getB_lit _ rfl ?_ | refine z7 ?_); conv => whnf) | exact True.intro)))
      refine dcallB (refRngLenC r hbl (by omega)) ?_
      ((conv => whnf); (repeat (first | ((first | refine z1 ?_ | refine z2 ?_ | refine z3 ?_ | refine idxB_at (by decide) rfl ?_ | refine atB_at (by decide) (by decide) ?_ | refine getB_lit _ rfl ?_ | refine z7 ?_); conv => whnf) | exact True.intro)))
      rw [show decide (((putR r ⟨tm, seq, 0⟩).1.items.length : Int) = (r.items.length : Int) + 1) = true from decide_eq_true (by omega)]
      ((conv => whnf); (repeat (first | ((first | refine z1 ?_ | refine z2 ?_ | refine z3 ?_ | refine idxB_at (by decide) rfl ?_ | refine atB_at (by decide) (by decide) ?_ | refine getB_lit _ rfl ?_ | refine z7 ?_); conv => whnf) | exact True.intro)))
      refine dcallC (sameItemsC l.top (by omega)) ?_
      ((conv => whnf); (repeat (first | ((first | refine z1 ?_ | refine z2 ?_ | refine z3 ?_ | refine idxB_at (by decide) rfl ?_ | refine atB_at (by decide) (by decide) ?_ | refine getB_lit _ rfl ?_ | refine z7 ?_); conv => whnf) | exact True.intro)))
      refine dcallC (sameItemsC l.bottom (by omega)) ?_
      ((conv => whnf); (repeat (first | ((first | refine z1 ?_ | refine z2 ?_ | refine z3 ?_ | refine idxB_at (by decide) rfl ?_ | refine atB_at (by decide) (by decide) ?_ | refine getB_lit _ rfl ?_ | refine z7 ?_); conv => whnf) | exact True.intro)))
      exact .same (congrArg (fun b => V.c (.bool b)) (decide_eq_true (by omega)))
    · refine .mk [] (i + 1) ⟨by omega, ?_⟩ (by omega) ?_
      · rw [List.take_add_one, hr]
        intro y hy
        rcases List.mem_append.1 hy with hy | hy
        · exact h2 y hy
        · simp at hy; subst hy; exact Int.not_le.1 v
      · ((conv => whnf); (repeat (first | ((first | refine z1 ?_ | refine z2 ?_ | refine z3 ?_ | refine idxB_at (by decide) rfl ?_ | refine atB_at (by decide) (by decide) ?_ | refine getB_lit _ rfl ?_ | refine z7 ?_); conv => whnf) | exact True.intro)))
  · have e : i = l.rungs.length := by simp at u; omega
    subst e
    rw [List.take_length] at h2
    have hfi : l.rungs.findIdx? (fun r => !decide (tm < r.at r.cur)) = none := List.findIdx?_eq_none_iff.2 fun x hx => by simpa using h2 x hx
    obtain ⟨e1, e2, e3⟩ := m6 g hfi
    have hil := (insI_perm l.bottom ⟨tm, seq, 0⟩).length_eq
    rw [List.length_cons] at hil
    rw [e1, e2, e3]
    refine wrB (by simp only [List.length_map]; omega) ?_
    ((conv => whnf); (repeat (first | ((first | refine z1 ?_ | refine z2 ?_ | refine z3 ?_ | refine idxB_at (by decide) rfl ?_ | refine atB_at (by decide) (by decide) ?_ | refine getB_lit _ rfl ?_ | refine z7 ?_); conv => whnf) | exact True.intro)))
    rw [show decide ((((insI l.bottom ⟨tm, seq, 0⟩).map Item.row).length : Int) = ((l.bottom.map Item.row).length : Int) + 1) = true from decide_eq_true (by simp only [List.length_map]; omega)]
    ((conv => whnf); (repeat (first | ((first | refine z1 ?_ | refine z2 ?_ | refine z3 ?_ | refine idxB_at (by decide) rfl ?_ | refine atB_at (by decide) (by decide) ?_ | refine getB_lit _ rfl ?_ | refine z7 ?_); conv => whnf) | exact True.intro)))
    refine callC (sameItemsC l.top (by omega)) ?_
    ((conv => whnf); (repeat (first | ((first | refine z1 ?_ | refine z2 ?_ | refine z3 ?_ | refine idxB_at (by decide) rfl ?_ | refine atB_at (by decide) (by decide) ?_ | refine getB_lit _ rfl ?_ | refine z7 ?_); conv => whnf) | exact True.intro)))
    exact .same (congrArg (fun b => V.c (.bool b)) (decide_eq_true (by first | rfl | simp)))
end Go.Proofs.Ytmihhkcbbdpnaaa.Abs
