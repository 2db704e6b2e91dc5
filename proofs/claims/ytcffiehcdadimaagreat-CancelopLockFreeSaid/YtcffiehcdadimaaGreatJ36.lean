/- Laws of cancellations: many calls, none of which takes a mutex: the walk. Printed by tools/gen36.py. -/
import Derived.Test.YtcffiehcdadimaaGreatJ35
namespace Go.Proofs.YtcffiehcdadimaaGreat.Abs
open Go.Proofs
set_option maxRecDepth 10000
set_option linter.unusedSimpArgs false
set_option linter.unusedVariables false
/-- the calls as they are made -/
def c0L (s : Sto) (hs : List Int) (j : Nat) : COp := ⟨j, s.hndl (hs.getD j 0), 0, 0, false, false⟩
def firstN (c : Nat → COp) (i : Nat) : Nat → Option COp := fun j => if j < i then some (c j) else none
def aV : Nat → V
  | 0 => .c (.slice none 0 0)
  | i + 1 => .sl 7 1 0 (i + 1)
def aB : Nat → List (Nat × B)
  | 0 => []
  | i + 1 => [(7, .rows 1 (ptrsL (i + 1)))]
theorem boCop {ρ : Nat → Nat} {b : Nat} {K : Prop} {o : Option COp} {a : Nat} {B' : Option B} (k : K) (hB : B' = some (copO o a) := by rfl) (h : ρ a = a := by rfl) (hb : a < b := by decide) : BO ρ b (copO o a) B' K := .mk _ hB (copO_ren h o).symm (copO_below hb o) k
theorem ren_low : ∀ {ρ : List (Nat × Nat)} (h : (ρ.all fun p => Nat.blt p.1 20) = true) (j : Nat), ren1 ρ (20 + j) = 20 + j
  | [], _, _ => rfl
  | p :: l, h, j => by
    simp only [List.all_cons, Bool.and_eq_true] at h
    have h1 : p.1 < 20 := by simpa [Nat.blt_eq] using h.1
    unfold ren1
    cases hb : Nat.beq (20 + j) p.1 with
    | true => have := Nat.eq_of_beq_eq_true hb; omega
    | false => exact ren_low h.2 j
theorem ren_fam {z t j : Nat} {ρ : List (Nat × Nat)} (h : (ρ.all fun p => Nat.blt p.1 20) = true) (hne : j ≠ t) : ren1 ((20 + t, z) :: ρ) (20 + j) = 20 + j := by
  unfold ren1
  cases hb : Nat.beq (20 + j) (20 + t) with
  | true => have := Nat.eq_of_beq_eq_true hb; omega
  | false => exact ren_low h j
theorem tmod_nat {p : Int} (h : 0 ≤ p) (m : Nat) : p.tmod (m : Int) = ((p.toNat % m : Nat) : Int) := by
  rw [Int.tmod_eq_emod_of_nonneg h, Int.natCast_emod, Int.toNat_of_nonneg h]
theorem ptrs_get {m j : Nat} (h : j < m) : (ptrsL m)[j]? = some [V.p (20 + j) 10 0 0] := by
  unfold ptrsL
  rw [List.getElem?_map, List.getElem?_range h]; rfl
theorem famL_below (cs : Nat → Option COp) {b : Nat} (hb : 384 < b) : ∀ p ∈ famL cs, p.1 < b ∧ p.2.Below (Lt b) := by
  intro p hp
  obtain ⟨j, hj, rfl⟩ := List.mem_map.1 hp
  have := List.mem_range.1 hj
  exact ⟨by dsimp only; omega, copO_below hb _⟩
theorem famL_fix (cs : Nat → Option COp) {b : Nat} (hb : 384 < b) : ∀ p ∈ famL cs, p.1 < b ∧ p.2.Below (Lt b) ∧ ren1 [] p.1 = p.1 ∧ renB (ren1 []) p.2 = p.2 := by
  intro p hp
  obtain ⟨h1, h2⟩ := famL_below cs hb p hp
  obtain ⟨j, hj, rfl⟩ := List.mem_map.1 hp
  exact ⟨h1, h2, rfl, copO_ren rfl _⟩
/-- the threads whose swap succeeded among the first entries -/
def wonB (l : List Acc) (q : Nat) (t : Nat) : Bool := (l.take q).any fun a => a.won && decide (a.th = (t : Int))
theorem won_zero (l : List Acc) (m : Nat) : endsD (wonB l 0) m = List.replicate m [.c (.bool false)] := by
  unfold endsD
  rw [show (fun j => [D.c (.bool (wonB l 0 j))]) = fun _ => [D.c (.bool false)] from funext fun j => by unfold wonB; rfl, List.map_const', List.length_range]
theorem won_next {l : List Acc} {q : Nat} {a : Acc} (h : l[q]? = some a) (t : Nat) : wonB l (q + 1) t = (wonB l q t || (a.won && decide (a.th = (t : Int)))) := by
  unfold wonB
  rw [List.take_add_one, h, List.any_append]
  simp
theorem won_no {l : List Acc} {q : Nat} {a : Acc} (h : l[q]? = some a) (hw : a.won = false) : wonB l (q + 1) = wonB l q := by
  funext t
  rw [won_next h, hw, Bool.false_and, Bool.or_false]
theorem won_yes {l : List Acc} {q : Nat} {a : Acc} (h : l[q]? = some a) (hw : a.won = true) {t : Nat} (ht : a.th = (t : Int)) : wonB l (q + 1) = upd (wonB l q) t true := by
  funext j
  rw [won_next h, hw, Bool.true_and]
  by_cases e : j = t
  · subst e
    rw [upd_same, decide_eq_true ht, Bool.or_true]
  · rw [upd_ne _ _ _ _ e, decide_eq_false (by omega), Bool.or_false]
theorem won_not {l : List Acc} {q : Nat} {a : Acc} (h : l[q]? = some a) (hw : a.won = true) (hp : (l.filter Acc.won).Pairwise (fun a b => a.th ≠ b.th)) {t : Nat} (ht : a.th = (t : Int)) : wonB l q t = false := by
  cases hb : wonB l q t with
  | false => rfl
  | true =>
    exfalso
    unfold wonB at hb
    obtain ⟨b, hb1, hb2⟩ := List.any_eq_true.1 hb
    simp only [Bool.and_eq_true, decide_eq_true_eq] at hb2
    obtain ⟨l2, hl2⟩ : ∃ l2, l = l.take q ++ a :: l2 := by
      obtain ⟨hq, hqa⟩ := List.getElem?_eq_some_iff.1 h
      exact ⟨l.drop (q + 1), by rw [← hqa, List.getElem_cons_drop, List.take_append_drop]⟩
    rw [hl2, List.filter_append] at hp
    refine (List.pairwise_append.1 hp).2.2 b (List.mem_filter.2 ⟨hb1, hb2.1⟩) a (List.mem_filter.2 ⟨List.mem_cons_self, hw⟩) (by rw [hb2.2, ht])
theorem boPtrs2 {ρ : Nat → Nat} {b : Nat} {K : Prop} {m : Nat} {B' : Option B} {L : List (List V)} (k : K) (hL : ptrsL m = L) (hB : B' = some (.rows 1 L)) (hm : m ≤ 20) (hr : ∀ j, j < m → ρ (20 + j) = 20 + j) (hb : 40 ≤ b) : BO ρ b (.rows 1 L) B' K := by
  subst hL; exact boPtrs k hB hm hr hb
theorem ptrs_below {m b : Nat} (hm : m ≤ 20) (hb : 40 ≤ b) : B.Below (Lt b) (.rows 1 (ptrsL m)) := by
  intro row hrow x hx
  obtain ⟨j, hj, rfl⟩ := List.mem_map.1 hrow
  rw [List.mem_singleton] at hx
  subst hx
  have := List.mem_range.1 hj
  exact .p _ _ _ _ (show 20 + j < b by omega)
theorem cNewI (s : Sto) (h : Int) (t : Nat) : LSpec Tryz.prog 19 [.p 0 10 0 0, V.int t, .agg [V.int 2, V.int 0, V.int h, V.int 0, V.int 0]] (stoB s 2) 5 (.p 5 10 0 0) (stoB s 2 ++ [(5, copR ⟨t, h, 0, 0, false, false⟩ 0)]) 6 := cNewC s t h 2 0 0 0
theorem fam_new (c : Nat → COp) {i : Nat} (hi : i < 20) : hAt (famL (firstN c i)) = hAt ([(20 + i, .dat 10 [])] ++ famX (firstN c i) i) := by
  have h := fam_split (firstN c i) hi
  rwa [show firstN c i i = none from if_neg (Nat.lt_irrefl i)] at h
theorem fam_made (c : Nat → COp) {i : Nat} (hi : i < 20) : hAt (famL (firstN c (i + 1))) = hAt ([(20 + i, copR (c i) 384)] ++ famX (firstN c i) i) := by
  have h := fam_next (cs := firstN c i) (ds := firstN c (i + 1)) hi fun j hj => by
    unfold firstN
    by_cases e : j < i
    · rw [if_pos e, if_pos (by omega)]
    · rw [if_neg e, if_neg (by omega)]
  rwa [show firstN c (i + 1) i = some (c i) from if_pos (Nat.lt_succ_self i)] at h
theorem fam_run (c : Nat → COp) {m t : Nat} (ht : t < m) (hm : m ≤ 20) : hAt (famL (firstN c m)) = hAt ([(20 + t, copR (c t) 384)] ++ famX (firstN c m) t) := by
  have h := fam_split (firstN c m) (t := t) (by omega)
  rwa [show firstN c m t = some (c t) from if_pos ht] at h
theorem fam_ran (c : Nat → COp) (c1 : COp) {m t : Nat} (ht : t < m) (hm : m ≤ 20) : hAt (famL (firstN (upd c t c1) m)) = hAt ([(20 + t, copR c1 384)] ++ famX (firstN c m) t) := by
  have h := fam_next (cs := firstN c m) (ds := firstN (upd c t c1) m) (t := t) (by omega) fun j hj => by
    unfold firstN
    rw [upd_ne _ _ _ _ hj]
  rwa [show firstN (upd c t c1) m t = some c1 by unfold firstN; rw [if_pos ht, upd_same]] at h

set_option maxHeartbeats 16000000 in
noncomputable def lf_def (c : Int) (l : List OpS) (handles picks : List Int) (hpk : ∀ y ∈ picks, 0 ≤ y ∧ y ≤ 255) {n : Nat} (hn : 1 ≤ n ∧ n ≤ 12) (s0 : Sto) (S : List Item) (hsz : PSpec Tryz.prog 15 [.c (.int .u8 c)] (V.int n))
    (hp : LSpec Tryz.prog 14 [V.int n, opsSV l] [] 0 (.tup [.p 0 10 0 0, .p 5 10 0 0]) (stoB s0 2 ++ rstoAt s0 5 7) 10) (hw0 : Wds s0 967) (hns : s0.slots.length = n)
    {k : Nat} (hm : handles.length = (k + 1 : Nat)) (hm20 : (k + 1 : Nat) ≤ 20) (hL : picks.length ≤ 200) (h0 : LfOk (k + 1 : Nat) n picks.length S s0.m.log s0.m.viol ⟨0, s0, c0L s0 handles, fun _ => false⟩) :
    Σ' (F1 : Nat → Prop) (F2 : Lf → Prop), PLift ((∀ i, i < k + 1 → F1 i) → (∀ y, LfOk (k + 1) n picks.length S s0.m.log s0.m.viol y → F2 y) → PSpec Tryz.prog 6 [.c (.int .u8 c), opsSV l, intsV handles, u8sV picks] (V.bool true)) := by
  apply PSigma.mk
  apply PSigma.mk
  apply PLift.up
  intro hF1 hF2
  show PSpec Tryz.prog 6 [.c (.int .u8 c), opsSV l, intsV handles, u8sV picks] (V.bool true)
  have hml : (picks.map u8D).length = picks.length := List.length_map ..
  have hmh : (handles.map intD).length = (k + 1 : Nat) := by rw [List.length_map, hm]
  have hlog0 := h0.lgl
  dsimp only at hlog0
  refine pspec tab_ok mix Tryz.func6 (by kernel_rfl) rfl rfl ?_
  (refine go ?_; try exact True.intro)
  refine callB head13C ?_
  (refine go ?_; try exact True.intro)
  refine callB hsz ?_
  (refine go ?_; try exact True.intro)
  refine callL hp [] [] rfl ?_
  (refine go ?_; try exact True.intro)
  rw [hmh, decide_eq_false (show ¬ (20 : Int) < (k + 1 : Nat) by omega)]
  (refine go ?_; try exact True.intro)
  rw [hml, decide_eq_false (show ¬ (200 : Int) < picks.length by omega)]
  (refine go ?_; try exact True.intro)
  refine callL (memoryC s0) [some 384, some 385, some 386, some 387, some 388] [] rfl ?_
  (refine go ?_; try exact True.intro)
  refine callL (logC s0.m hw0.fits.mem) [some 385, some 386, some 387, some 388] [] rfl ?_
  (refine go ?_; try exact True.intro)
  refine callL (memoryC s0) [some 384, some 385, some 386, some 387, some 388] [] rfl ?_
  (refine go ?_; try exact True.intro)
  refine callL (violC s0.m) [some 385, some 386, some 387, some 388] [] rfl ?_
  (refine go ?_; try exact True.intro)
  refine loopF tab_ok mix [7, 20, 21, 22, 23, 24, 25, 26, 27, 28, 29, 30, 31, 32, 33, 34, 35, 36, 37, 38, 39] [2, 3, 9, 10, 12, 13] [384, 385, 386, 387, 388] (fun i : Nat => [(14, aV i), (15, .ac 8 1 i), (16, V.int i)]) (fun i => aB i ++ [(8, .dat 1 (endsD (fun _ => false) i))]) (fun i => famL (firstN (c0L s0 handles) i)) (fun i => i ≤ (k + 1 : Nat)) (fun i => (k + 1 : Nat) - i) [] 0 rfl (Nat.zero_le _) ?_ ?_
  · (refine go ?_; try exact True.intro)
    iterate 20 (refine BO.no rfl True.intro ?_; (refine go ?_; try exact True.intro))
  intro i hi
  by_cases u : i < k + 1
  · exact hF1 i u
  obtain rfl : i = k + 1 := by omega
  refine RoundF.mk [] (famL (firstN (c0L s0 handles) (k + 1))) rfl rfl (famL_below _ (by decide)) ?_
  (refine go ?_; try exact True.intro)
  rw [hmh, decide_eq_false (show ¬ ((k + 1 : Nat) : Int) < ((k + 1 : Nat) : Int) by omega)]
  (refine go ?_; try exact True.intro)
  refine loopF tab_ok mix [7, 8, 20, 21, 22, 23, 24, 25, 26, 27, 28, 29, 30, 31, 32, 33, 34, 35, 36, 37, 38, 39] [2, 3, 9, 10, 12, 13, 14] [] (fun y : Lf => [(15, .ac 8 1 (k + 1)), (17, V.int y.i)]) (fun y => [(7, .rows 1 (ptrsL (k + 1))), (8, .dat 1 (endsD y.es (k + 1)))] ++ stoAt y.s 384 1) (fun y => famL (firstN y.cs (k + 1))) (fun y => LfOk (k + 1) n picks.length S s0.m.log s0.m.viol y) (fun y => picks.length - y.i) [(1, 386)] ⟨0, s0, c0L s0 handles, fun _ => false⟩ rfl h0 ?_ ?_
  · (refine go ?_; try exact True.intro)
    refine boPtrs2 ?_ rfl rfl hm20 (fun j _ => ren_low rfl j) (by decide)
    (refine go ?_; try exact True.intro)
    refine .mk _ rfl rfl trivial ?_
    (refine go ?_; try exact True.intro)
    refine .mk _ rfl (copO_ren (a := 384) (ρ := ren1 [(1, 386)]) rfl (firstN (c0L s0 handles) (k + 1) 0)).symm (copO_below (a := 384) (b := 2624) (by decide) (firstN (c0L s0 handles) (k + 1) 0)) ?_
    (refine go ?_; try exact True.intro)
    refine .mk _ rfl (copO_ren (a := 384) (ρ := ren1 [(1, 386)]) rfl (firstN (c0L s0 handles) (k + 1) 1)).symm (copO_below (a := 384) (b := 2624) (by decide) (firstN (c0L s0 handles) (k + 1) 1)) ?_
    (refine go ?_; try exact True.intro)
    refine .mk _ rfl (copO_ren (a := 384) (ρ := ren1 [(1, 386)]) rfl (firstN (c0L s0 handles) (k + 1) 2)).symm (copO_below (a := 384) (b := 2624) (by decide) (firstN (c0L s0 handles) (k + 1) 2)) ?_
    (refine go ?_; try exact True.intro)
    refine .mk _ rfl (copO_ren (a := 384) (ρ := ren1 [(1, 386)]) rfl (firstN (c0L s0 handles) (k + 1) 3)).symm (copO_below (a := 384) (b := 2624) (by decide) (firstN (c0L s0 handles) (k + 1) 3)) ?_
    (refine go ?_; try exact True.intro)
    refine .mk _ rfl (copO_ren (a := 384) (ρ := ren1 [(1, 386)]) rfl (firstN (c0L s0 handles) (k + 1) 4)).symm (copO_below (a := 384) (b := 2624) (by decide) (firstN (c0L s0 handles) (k + 1) 4)) ?_
    (refine go ?_; try exact True.intro)
    refine .mk _ rfl (copO_ren (a := 384) (ρ := ren1 [(1, 386)]) rfl (firstN (c0L s0 handles) (k + 1) 5)).symm (copO_below (a := 384) (b := 2624) (by decide) (firstN (c0L s0 handles) (k + 1) 5)) ?_
    (refine go ?_; try exact True.intro)
    refine .mk _ rfl (copO_ren (a := 384) (ρ := ren1 [(1, 386)]) rfl (firstN (c0L s0 handles) (k + 1) 6)).symm (copO_below (a := 384) (b := 2624) (by decide) (firstN (c0L s0 handles) (k + 1) 6)) ?_
    (refine go ?_; try exact True.intro)
    refine .mk _ rfl (copO_ren (a := 384) (ρ := ren1 [(1, 386)]) rfl (firstN (c0L s0 handles) (k + 1) 7)).symm (copO_below (a := 384) (b := 2624) (by decide) (firstN (c0L s0 handles) (k + 1) 7)) ?_
    (refine go ?_; try exact True.intro)
    refine .mk _ rfl (copO_ren (a := 384) (ρ := ren1 [(1, 386)]) rfl (firstN (c0L s0 handles) (k + 1) 8)).symm (copO_below (a := 384) (b := 2624) (by decide) (firstN (c0L s0 handles) (k + 1) 8)) ?_
    (refine go ?_; try exact True.intro)
    refine .mk _ rfl (copO_ren (a := 384) (ρ := ren1 [(1, 386)]) rfl (firstN (c0L s0 handles) (k + 1) 9)).symm (copO_below (a := 384) (b := 2624) (by decide) (firstN (c0L s0 handles) (k + 1) 9)) ?_
    (refine go ?_; try exact True.intro)
    refine .mk _ rfl (copO_ren (a := 384) (ρ := ren1 [(1, 386)]) rfl (firstN (c0L s0 handles) (k + 1) 10)).symm (copO_below (a := 384) (b := 2624) (by decide) (firstN (c0L s0 handles) (k + 1) 10)) ?_
    (refine go ?_; try exact True.intro)
    refine .mk _ rfl (copO_ren (a := 384) (ρ := ren1 [(1, 386)]) rfl (firstN (c0L s0 handles) (k + 1) 11)).symm (copO_below (a := 384) (b := 2624) (by decide) (firstN (c0L s0 handles) (k + 1) 11)) ?_
    (refine go ?_; try exact True.intro)
    refine .mk _ rfl (copO_ren (a := 384) (ρ := ren1 [(1, 386)]) rfl (firstN (c0L s0 handles) (k + 1) 12)).symm (copO_below (a := 384) (b := 2624) (by decide) (firstN (c0L s0 handles) (k + 1) 12)) ?_
    (refine go ?_; try exact True.intro)
    refine .mk _ rfl (copO_ren (a := 384) (ρ := ren1 [(1, 386)]) rfl (firstN (c0L s0 handles) (k + 1) 13)).symm (copO_below (a := 384) (b := 2624) (by decide) (firstN (c0L s0 handles) (k + 1) 13)) ?_
    (refine go ?_; try exact True.intro)
    refine .mk _ rfl (copO_ren (a := 384) (ρ := ren1 [(1, 386)]) rfl (firstN (c0L s0 handles) (k + 1) 14)).symm (copO_below (a := 384) (b := 2624) (by decide) (firstN (c0L s0 handles) (k + 1) 14)) ?_
    (refine go ?_; try exact True.intro)
    refine .mk _ rfl (copO_ren (a := 384) (ρ := ren1 [(1, 386)]) rfl (firstN (c0L s0 handles) (k + 1) 15)).symm (copO_below (a := 384) (b := 2624) (by decide) (firstN (c0L s0 handles) (k + 1) 15)) ?_
    (refine go ?_; try exact True.intro)
    refine .mk _ rfl (copO_ren (a := 384) (ρ := ren1 [(1, 386)]) rfl (firstN (c0L s0 handles) (k + 1) 16)).symm (copO_below (a := 384) (b := 2624) (by decide) (firstN (c0L s0 handles) (k + 1) 16)) ?_
    (refine go ?_; try exact True.intro)
    refine .mk _ rfl (copO_ren (a := 384) (ρ := ren1 [(1, 386)]) rfl (firstN (c0L s0 handles) (k + 1) 17)).symm (copO_below (a := 384) (b := 2624) (by decide) (firstN (c0L s0 handles) (k + 1) 17)) ?_
    (refine go ?_; try exact True.intro)
    refine .mk _ rfl (copO_ren (a := 384) (ρ := ren1 [(1, 386)]) rfl (firstN (c0L s0 handles) (k + 1) 18)).symm (copO_below (a := 384) (b := 2624) (by decide) (firstN (c0L s0 handles) (k + 1) 18)) ?_
    (refine go ?_; try exact True.intro)
    refine .mk _ rfl (copO_ren (a := 384) (ρ := ren1 [(1, 386)]) rfl (firstN (c0L s0 handles) (k + 1) 19)).symm (copO_below (a := 384) (b := 2624) (by decide) (firstN (c0L s0 handles) (k + 1) 19)) ?_
    (refine go ?_; try exact True.intro)
  exact fun y hy => hF2 y hy
section
set_option maxHeartbeats 16000000
variable (c : Int) (l : List OpS) (handles picks : List Int) (hpk : ∀ y ∈ picks, 0 ≤ y ∧ y ≤ 255) {n : Nat} (hn : 1 ≤ n ∧ n ≤ 12) (s0 : Sto) (S : List Item) (hsz : PSpec Tryz.prog 15 [.c (.int .u8 c)] (V.int n))
    (hp : LSpec Tryz.prog 14 [V.int n, opsSV l] [] 0 (.tup [.p 0 10 0 0, .p 5 10 0 0]) (stoB s0 2 ++ rstoAt s0 5 7) 10) (hw0 : Wds s0 967) (hns : s0.slots.length = n)
    {k : Nat} (hm : handles.length = (k + 1 : Nat)) (hm20 : (k + 1 : Nat) ≤ 20) (hL : picks.length ≤ 200) (h0 : LfOk (k + 1 : Nat) n picks.length S s0.m.log s0.m.viol ⟨0, s0, c0L s0 handles, fun _ => false⟩)
theorem lf_new0  (u : 0 < k + 1) :
    (lf_def c l handles picks hpk hn s0 S hsz hp hw0 hns hm hm20 hL h0).1 0 := by
  have hml : (picks.map u8D).length = picks.length := List.length_map ..
  have hmh : (handles.map intD).length = (k + 1 : Nat) := by rw [List.length_map, hm]
  have hlog0 := h0.lgl
  dsimp only at hlog0
  have hraw : handles[0]? = some (handles.getD 0 0) := by rw [List.getD_eq_getElem?_getD, List.getElem?_eq_getElem (by rw [hm]; exact u)]; rfl
  have hdc := handleC s0 hw0 (by omega) (handles.getD 0 0)
  refine RoundF.mk [(20, .dat 10 [])] (famX (firstN (c0L s0 handles) 0) 0) (fam_new _ (by decide)) rfl (famX_below _ _ (by decide)) ?_
  (refine go ?_; try exact True.intro)
  rw [hmh, decide_eq_true (show ((0 : Nat) : Int) < (k + 1 : Nat) by omega)]
  (refine go ?_; try exact True.intro)
  refine idxB hraw ?_
  (refine go ?_; try exact True.intro)
  refine callL hdc [some 384, some 385, some 386, some 387, some 388] [] rfl ?_
  (refine go ?_; try exact True.intro)
  refine callL (cNewI s0 (s0.hndl (handles.getD 0 0)) 0) [some 384, some 385, some 386, some 387, some 388] [] rfl ?_
  (refine go ?_; try exact True.intro)
  refine cb ⟨(ends_len _ _).symm, Nat.le_of_ble_eq_true rfl⟩ ?_
  (refine go ?_; try exact True.intro)
  refine .mk [(20, 3200), (7, 3328), (8, 3904)] 1 [(20, copR (c0L s0 handles 0) 384)] (by omega) (by omega) (fam_made _ (by decide)) (famX_fix _ _ (by decide) rfl fun j _ hne => ren_fam rfl hne) ?_
  (refine go ?_; try exact True.intro)
  refine .mk _ rfl rfl (ptrs_below (by decide) (by decide)) ?_
  (refine go ?_; try exact True.intro)
  refine .mk _ rfl rfl (copR_below (by decide) _) ?_
  (refine go ?_; try exact True.intro)
theorem lf_new1  (u : 1 < k + 1) :
    (lf_def c l handles picks hpk hn s0 S hsz hp hw0 hns hm hm20 hL h0).1 1 := by
  have hml : (picks.map u8D).length = picks.length := List.length_map ..
  have hmh : (handles.map intD).length = (k + 1 : Nat) := by rw [List.length_map, hm]
  have hlog0 := h0.lgl
  dsimp only at hlog0
  have hraw : handles[1]? = some (handles.getD 1 0) := by rw [List.getD_eq_getElem?_getD, List.getElem?_eq_getElem (by rw [hm]; exact u)]; rfl
  have hdc := handleC s0 hw0 (by omega) (handles.getD 1 0)
  refine RoundF.mk [(21, .dat 10 [])] (famX (firstN (c0L s0 handles) 1) 1) (fam_new _ (by decide)) rfl (famX_below _ _ (by decide)) ?_
  (refine go ?_; try exact True.intro)
  rw [hmh, decide_eq_true (show ((1 : Nat) : Int) < (k + 1 : Nat) by omega)]
  (refine go ?_; try exact True.intro)
  refine idxB hraw ?_
  (refine go ?_; try exact True.intro)
  refine callL hdc [some 384, some 385, some 386, some 387, some 388] [] rfl ?_
  (refine go ?_; try exact True.intro)
  refine callL (cNewI s0 (s0.hndl (handles.getD 1 0)) 1) [some 384, some 385, some 386, some 387, some 388] [] rfl ?_
  (refine go ?_; try exact True.intro)
  refine cb ⟨Nat.le_of_ble_eq_true rfl, Nat.le_of_ble_eq_true rfl⟩ ?_
  (refine go ?_; try exact True.intro)
  refine cb ⟨(ends_len _ _).symm, Nat.le_of_ble_eq_true rfl⟩ ?_
  (refine go ?_; try exact True.intro)
  refine .mk [(21, 3200), (7, 3328), (8, 3904)] 2 [(21, copR (c0L s0 handles 1) 384)] (by omega) (by omega) (fam_made _ (by decide)) (famX_fix _ _ (by decide) rfl fun j _ hne => ren_fam rfl hne) ?_
  (refine go ?_; try exact True.intro)
  refine .mk _ rfl rfl (ptrs_below (by decide) (by decide)) ?_
  (refine go ?_; try exact True.intro)
  refine .mk _ rfl rfl (copR_below (by decide) _) ?_
  (refine go ?_; try exact True.intro)
theorem lf_new2  (u : 2 < k + 1) :
    (lf_def c l handles picks hpk hn s0 S hsz hp hw0 hns hm hm20 hL h0).1 2 := by
  have hml : (picks.map u8D).length = picks.length := List.length_map ..
  have hmh : (handles.map intD).length = (k + 1 : Nat) := by rw [List.length_map, hm]
  have hlog0 := h0.lgl
  dsimp only at hlog0
  have hraw : handles[2]? = some (handles.getD 2 0) := by rw [List.getD_eq_getElem?_getD, List.getElem?_eq_getElem (by rw [hm]; exact u)]; rfl
  have hdc := handleC s0 hw0 (by omega) (handles.getD 2 0)
  refine RoundF.mk [(22, .dat 10 [])] (famX (firstN (c0L s0 handles) 2) 2) (fam_new _ (by decide)) rfl (famX_below _ _ (by decide)) ?_
  (refine go ?_; try exact True.intro)
  rw [hmh, decide_eq_true (show ((2 : Nat) : Int) < (k + 1 : Nat) by omega)]
  (refine go ?_; try exact True.intro)
  refine idxB hraw ?_
  (refine go ?_; try exact True.intro)
  refine callL hdc [some 384, some 385, some 386, some 387, some 388] [] rfl ?_
  (refine go ?_; try exact True.intro)
  refine callL (cNewI s0 (s0.hndl (handles.getD 2 0)) 2) [some 384, some 385, some 386, some 387, some 388] [] rfl ?_
  (refine go ?_; try exact True.intro)
  refine cb ⟨Nat.le_of_ble_eq_true rfl, Nat.le_of_ble_eq_true rfl⟩ ?_
  (refine go ?_; try exact True.intro)
  refine cb ⟨(ends_len _ _).symm, Nat.le_of_ble_eq_true rfl⟩ ?_
  (refine go ?_; try exact True.intro)
  refine .mk [(22, 3200), (7, 3328), (8, 3904)] 3 [(22, copR (c0L s0 handles 2) 384)] (by omega) (by omega) (fam_made _ (by decide)) (famX_fix _ _ (by decide) rfl fun j _ hne => ren_fam rfl hne) ?_
  (refine go ?_; try exact True.intro)
  refine .mk _ rfl rfl (ptrs_below (by decide) (by decide)) ?_
  (refine go ?_; try exact True.intro)
  refine .mk _ rfl rfl (copR_below (by decide) _) ?_
  (refine go ?_; try exact True.intro)
theorem lf_new3  (u : 3 < k + 1) :
    (lf_def c l handles picks hpk hn s0 S hsz hp hw0 hns hm hm20 hL h0).1 3 := by
  have hml : (picks.map u8D).length = picks.length := List.length_map ..
  have hmh : (handles.map intD).length = (k + 1 : Nat) := by rw [List.length_map, hm]
  have hlog0 := h0.lgl
  dsimp only at hlog0
  have hraw : handles[3]? = some (handles.getD 3 0) := by rw [List.getD_eq_getElem?_getD, List.getElem?_eq_getElem (by rw [hm]; exact u)]; rfl
  have hdc := handleC s0 hw0 (by omega) (handles.getD 3 0)
  refine RoundF.mk [(23, .dat 10 [])] (famX (firstN (c0L s0 handles) 3) 3) (fam_new _ (by decide)) rfl (famX_below _ _ (by decide)) ?_
  (refine go ?_; try exact True.intro)
  rw [hmh, decide_eq_true (show ((3 : Nat) : Int) < (k + 1 : Nat) by omega)]
  (refine go ?_; try exact True.intro)
  refine idxB hraw ?_
  (refine go ?_; try exact True.intro)
  refine callL hdc [some 384, some 385, some 386, some 387, some 388] [] rfl ?_
  (refine go ?_; try exact True.intro)
  refine callL (cNewI s0 (s0.hndl (handles.getD 3 0)) 3) [some 384, some 385, some 386, some 387, some 388] [] rfl ?_
  (refine go ?_; try exact True.intro)
  refine cb ⟨Nat.le_of_ble_eq_true rfl, Nat.le_of_ble_eq_true rfl⟩ ?_
  (refine go ?_; try exact True.intro)
  refine cb ⟨(ends_len _ _).symm, Nat.le_of_ble_eq_true rfl⟩ ?_
  (refine go ?_; try exact True.intro)
  refine .mk [(23, 3200), (7, 3328), (8, 3904)] 4 [(23, copR (c0L s0 handles 3) 384)] (by omega) (by omega) (fam_made _ (by decide)) (famX_fix _ _ (by decide) rfl fun j _ hne => ren_fam rfl hne) ?_
  (refine go ?_; try exact True.intro)
  refine .mk _ rfl rfl (ptrs_below (by decide) (by decide)) ?_
  (refine go ?_; try exact True.intro)
  refine .mk _ rfl rfl (copR_below (by decide) _) ?_
  (refine go ?_; try exact True.intro)
theorem lf_new4  (u : 4 < k + 1) :
    (lf_def c l handles picks hpk hn s0 S hsz hp hw0 hns hm hm20 hL h0).1 4 := by
  have hml : (picks.map u8D).length = picks.length := List.length_map ..
  have hmh : (handles.map intD).length = (k + 1 : Nat) := by rw [List.length_map, hm]
  have hlog0 := h0.lgl
  dsimp only at hlog0
  have hraw : handles[4]? = some (handles.getD 4 0) := by rw [List.getD_eq_getElem?_getD, List.getElem?_eq_getElem (by rw [hm]; exact u)]; rfl
  have hdc := handleC s0 hw0 (by omega) (handles.getD 4 0)
  refine RoundF.mk [(24, .dat 10 [])] (famX (firstN (c0L s0 handles) 4) 4) (fam_new _ (by decide)) rfl (famX_below _ _ (by decide)) ?_
  (refine go ?_; try exact True.intro)
  rw [hmh, decide_eq_true (show ((4 : Nat) : Int) < (k + 1 : Nat) by omega)]
  (refine go ?_; try exact True.intro)
  refine idxB hraw ?_
  (refine go ?_; try exact True.intro)
  refine callL hdc [some 384, some 385, some 386, some 387, some 388] [] rfl ?_
  (refine go ?_; try exact True.intro)
  refine callL (cNewI s0 (s0.hndl (handles.getD 4 0)) 4) [some 384, some 385, some 386, some 387, some 388] [] rfl ?_
  (refine go ?_; try exact True.intro)
  refine cb ⟨Nat.le_of_ble_eq_true rfl, Nat.le_of_ble_eq_true rfl⟩ ?_
  (refine go ?_; try exact True.intro)
  refine cb ⟨(ends_len _ _).symm, Nat.le_of_ble_eq_true rfl⟩ ?_
  (refine go ?_; try exact True.intro)
  refine .mk [(24, 3200), (7, 3328), (8, 3904)] 5 [(24, copR (c0L s0 handles 4) 384)] (by omega) (by omega) (fam_made _ (by decide)) (famX_fix _ _ (by decide) rfl fun j _ hne => ren_fam rfl hne) ?_
  (refine go ?_; try exact True.intro)
  refine .mk _ rfl rfl (ptrs_below (by decide) (by decide)) ?_
  (refine go ?_; try exact True.intro)
  refine .mk _ rfl rfl (copR_below (by decide) _) ?_
  (refine go ?_; try exact True.intro)
theorem lf_new5  (u : 5 < k + 1) :
    (lf_def c l handles picks hpk hn s0 S hsz hp hw0 hns hm hm20 hL h0).1 5 := by
  have hml : (picks.map u8D).length = picks.length := List.length_map ..
  have hmh : (handles.map intD).length = (k + 1 : Nat) := by rw [List.length_map, hm]
  have hlog0 := h0.lgl
  dsimp only at hlog0
  have hraw : handles[5]? = some (handles.getD 5 0) := by rw [List.getD_eq_getElem?_getD, List.getElem?_eq_getElem (by rw [hm]; exact u)]; rfl
  have hdc := handleC s0 hw0 (by omega) (handles.getD 5 0)
  refine RoundF.mk [(25, .dat 10 [])] (famX (firstN (c0L s0 handles) 5) 5) (fam_new _ (by decide)) rfl (famX_below _ _ (by decide)) ?_
  (refine go ?_; try exact True.intro)
  rw [hmh, decide_eq_true (show ((5 : Nat) : Int) < (k + 1 : Nat) by omega)]
  (refine go ?_; try exact True.intro)
  refine idxB hraw ?_
  (refine go ?_; try exact True.intro)
  refine callL hdc [some 384, some 385, some 386, some 387, some 388] [] rfl ?_
  (refine go ?_; try exact True.intro)
  refine callL (cNewI s0 (s0.hndl (handles.getD 5 0)) 5) [some 384, some 385, some 386, some 387, some 388] [] rfl ?_
  (refine go ?_; try exact True.intro)
  refine cb ⟨Nat.le_of_ble_eq_true rfl, Nat.le_of_ble_eq_true rfl⟩ ?_
  (refine go ?_; try exact True.intro)
  refine cb ⟨(ends_len _ _).symm, Nat.le_of_ble_eq_true rfl⟩ ?_
  (refine go ?_; try exact True.intro)
  refine .mk [(25, 3200), (7, 3328), (8, 3904)] 6 [(25, copR (c0L s0 handles 5) 384)] (by omega) (by omega) (fam_made _ (by decide)) (famX_fix _ _ (by decide) rfl fun j _ hne => ren_fam rfl hne) ?_
  (refine go ?_; try exact True.intro)
  refine .mk _ rfl rfl (ptrs_below (by decide) (by decide)) ?_
  (refine go ?_; try exact True.intro)
  refine .mk _ rfl rfl (copR_below (by decide) _) ?_
  (refine go ?_; try exact True.intro)
theorem lf_new6  (u : 6 < k + 1) :
    (lf_def c l handles picks hpk hn s0 S hsz hp hw0 hns hm hm20 hL h0).1 6 := by
  have hml : (picks.map u8D).length = picks.length := List.length_map ..
  have hmh : (handles.map intD).length = (k + 1 : Nat) := by rw [List.length_map, hm]
  have hlog0 := h0.lgl
  dsimp only at hlog0
  have hraw : handles[6]? = some (handles.getD 6 0) := by rw [List.getD_eq_getElem?_getD, List.getElem?_eq_getElem (by rw [hm]; exact u)]; rfl
  have hdc := handleC s0 hw0 (by omega) (handles.getD 6 0)
  refine RoundF.mk [(26, .dat 10 [])] (famX (firstN (c0L s0 handles) 6) 6) (fam_new _ (by decide)) rfl (famX_below _ _ (by decide)) ?_
  (refine go ?_; try exact True.intro)
  rw [hmh, decide_eq_true (show ((6 : Nat) : Int) < (k + 1 : Nat) by omega)]
  (refine go ?_; try exact True.intro)
  refine idxB hraw ?_
  (refine go ?_; try exact True.intro)
  refine callL hdc [some 384, some 385, some 386, some 387, some 388] [] rfl ?_
  (refine go ?_; try exact True.intro)
  refine callL (cNewI s0 (s0.hndl (handles.getD 6 0)) 6) [some 384, some 385, some 386, some 387, some 388] [] rfl ?_
  (refine go ?_; try exact True.intro)
  refine cb ⟨Nat.le_of_ble_eq_true rfl, Nat.le_of_ble_eq_true rfl⟩ ?_
  (refine go ?_; try exact True.intro)
  refine cb ⟨(ends_len _ _).symm, Nat.le_of_ble_eq_true rfl⟩ ?_
  (refine go ?_; try exact True.intro)
  refine .mk [(26, 3200), (7, 3328), (8, 3904)] 7 [(26, copR (c0L s0 handles 6) 384)] (by omega) (by omega) (fam_made _ (by decide)) (famX_fix _ _ (by decide) rfl fun j _ hne => ren_fam rfl hne) ?_
  (refine go ?_; try exact True.intro)
  refine .mk _ rfl rfl (ptrs_below (by decide) (by decide)) ?_
  (refine go ?_; try exact True.intro)
  refine .mk _ rfl rfl (copR_below (by decide) _) ?_
  (refine go ?_; try exact True.intro)
theorem lf_new7  (u : 7 < k + 1) :
    (lf_def c l handles picks hpk hn s0 S hsz hp hw0 hns hm hm20 hL h0).1 7 := by
  have hml : (picks.map u8D).length = picks.length := List.length_map ..
  have hmh : (handles.map intD).length = (k + 1 : Nat) := by rw [List.length_map, hm]
  have hlog0 := h0.lgl
  dsimp only at hlog0
  have hraw : handles[7]? = some (handles.getD 7 0) := by rw [List.getD_eq_getElem?_getD, List.getElem?_eq_getElem (by rw [hm]; exact u)]; rfl
  have hdc := handleC s0 hw0 (by omega) (handles.getD 7 0)
  refine RoundF.mk [(27, .dat 10 [])] (famX (firstN (c0L s0 handles) 7) 7) (fam_new _ (by decide)) rfl (famX_below _ _ (by decide)) ?_
  (refine go ?_; try exact True.intro)
  rw [hmh, decide_eq_true (show ((7 : Nat) : Int) < (k + 1 : Nat) by omega)]
  (refine go ?_; try exact True.intro)
  refine idxB hraw ?_
  (refine go ?_; try exact True.intro)
  refine callL hdc [some 384, some 385, some 386, some 387, some 388] [] rfl ?_
  (refine go ?_; try exact True.intro)
  refine callL (cNewI s0 (s0.hndl (handles.getD 7 0)) 7) [some 384, some 385, some 386, some 387, some 388] [] rfl ?_
  (refine go ?_; try exact True.intro)
  refine cb ⟨Nat.le_of_ble_eq_true rfl, Nat.le_of_ble_eq_true rfl⟩ ?_
  (refine go ?_; try exact True.intro)
  refine cb ⟨(ends_len _ _).symm, Nat.le_of_ble_eq_true rfl⟩ ?_
  (refine go ?_; try exact True.intro)
  refine .mk [(27, 3200), (7, 3328), (8, 3904)] 8 [(27, copR (c0L s0 handles 7) 384)] (by omega) (by omega) (fam_made _ (by decide)) (famX_fix _ _ (by decide) rfl fun j _ hne => ren_fam rfl hne) ?_
  (refine go ?_; try exact True.intro)
  refine .mk _ rfl rfl (ptrs_below (by decide) (by decide)) ?_
  (refine go ?_; try exact True.intro)
  refine .mk _ rfl rfl (copR_below (by decide) _) ?_
  (refine go ?_; try exact True.intro)
theorem lf_new8  (u : 8 < k + 1) :
    (lf_def c l handles picks hpk hn s0 S hsz hp hw0 hns hm hm20 hL h0).1 8 := by
  have hml : (picks.map u8D).length = picks.length := List.length_map ..
  have hmh : (handles.map intD).length = (k + 1 : Nat) := by rw [List.length_map, hm]
  have hlog0 := h0.lgl
  dsimp only at hlog0
  have hraw : handles[8]? = some (handles.getD 8 0) := by rw [List.getD_eq_getElem?_getD, List.getElem?_eq_getElem (by rw [hm]; exact u)]; rfl
  have hdc := handleC s0 hw0 (by omega) (handles.getD 8 0)
  refine RoundF.mk [(28, .dat 10 [])] (famX (firstN (c0L s0 handles) 8) 8) (fam_new _ (by decide)) rfl (famX_below _ _ (by decide)) ?_
  (refine go ?_; try exact True.intro)
  rw [hmh, decide_eq_true (show ((8 : Nat) : Int) < (k + 1 : Nat) by omega)]
  (refine go ?_; try exact True.intro)
  refine idxB hraw ?_
  (refine go ?_; try exact True.intro)
  refine callL hdc [some 384, some 385, some 386, some 387, some 388] [] rfl ?_
  (refine go ?_; try exact True.intro)
  refine callL (cNewI s0 (s0.hndl (handles.getD 8 0)) 8) [some 384, some 385, some 386, some 387, some 388] [] rfl ?_
  (refine go ?_; try exact True.intro)
  refine cb ⟨Nat.le_of_ble_eq_true rfl, Nat.le_of_ble_eq_true rfl⟩ ?_
  (refine go ?_; try exact True.intro)
  refine cb ⟨(ends_len _ _).symm, Nat.le_of_ble_eq_true rfl⟩ ?_
  (refine go ?_; try exact True.intro)
  refine .mk [(28, 3200), (7, 3328), (8, 3904)] 9 [(28, copR (c0L s0 handles 8) 384)] (by omega) (by omega) (fam_made _ (by decide)) (famX_fix _ _ (by decide) rfl fun j _ hne => ren_fam rfl hne) ?_
  (refine go ?_; try exact True.intro)
  refine .mk _ rfl rfl (ptrs_below (by decide) (by decide)) ?_
  (refine go ?_; try exact True.intro)
  refine .mk _ rfl rfl (copR_below (by decide) _) ?_
  (refine go ?_; try exact True.intro)
theorem lf_new9  (u : 9 < k + 1) :
    (lf_def c l handles picks hpk hn s0 S hsz hp hw0 hns hm hm20 hL h0).1 9 := by
  have hml : (picks.map u8D).length = picks.length := List.length_map ..
  have hmh : (handles.map intD).length = (k + 1 : Nat) := by rw [List.length_map, hm]
  have hlog0 := h0.lgl
  dsimp only at hlog0
  have hraw : handles[9]? = some (handles.getD 9 0) := by rw [List.getD_eq_getElem?_getD, List.getElem?_eq_getElem (by rw [hm]; exact u)]; rfl
  have hdc := handleC s0 hw0 (by omega) (handles.getD 9 0)
  refine RoundF.mk [(29, .dat 10 [])] (famX (firstN (c0L s0 handles) 9) 9) (fam_new _ (by decide)) rfl (famX_below _ _ (by decide)) ?_
  (refine go ?_; try exact True.intro)
  rw [hmh, decide_eq_true (show ((9 : Nat) : Int) < (k + 1 : Nat) by omega)]
  (refine go ?_; try exact True.intro)
  refine idxB hraw ?_
  (refine go ?_; try exact True.intro)
  refine callL hdc [some 384, some 385, some 386, some 387, some 388] [] rfl ?_
  (refine go ?_; try exact True.intro)
  refine callL (cNewI s0 (s0.hndl (handles.getD 9 0)) 9) [some 384, some 385, some 386, some 387, some 388] [] rfl ?_
  (refine go ?_; try exact True.intro)
  refine cb ⟨Nat.le_of_ble_eq_true rfl, Nat.le_of_ble_eq_true rfl⟩ ?_
  (refine go ?_; try exact True.intro)
  refine cb ⟨(ends_len _ _).symm, Nat.le_of_ble_eq_true rfl⟩ ?_
  (refine go ?_; try exact True.intro)
  refine .mk [(29, 3200), (7, 3328), (8, 3904)] 10 [(29, copR (c0L s0 handles 9) 384)] (by omega) (by omega) (fam_made _ (by decide)) (famX_fix _ _ (by decide) rfl fun j _ hne => ren_fam rfl hne) ?_
  (refine go ?_; try exact True.intro)
  refine .mk _ rfl rfl (ptrs_below (by decide) (by decide)) ?_
  (refine go ?_; try exact True.intro)
  refine .mk _ rfl rfl (copR_below (by decide) _) ?_
  (refine go ?_; try exact True.intro)
theorem lf_new10  (u : 10 < k + 1) :
    (lf_def c l handles picks hpk hn s0 S hsz hp hw0 hns hm hm20 hL h0).1 10 := by
  have hml : (picks.map u8D).length = picks.length := List.length_map ..
  have hmh : (handles.map intD).length = (k + 1 : Nat) := by rw [List.length_map, hm]
  have hlog0 := h0.lgl
  dsimp only at hlog0
  have hraw : handles[10]? = some (handles.getD 10 0) := by rw [List.getD_eq_getElem?_getD, List.getElem?_eq_getElem (by rw [hm]; exact u)]; rfl
  have hdc := handleC s0 hw0 (by omega) (handles.getD 10 0)
  refine RoundF.mk [(30, .dat 10 [])] (famX (firstN (c0L s0 handles) 10) 10) (fam_new _ (by decide)) rfl (famX_below _ _ (by decide)) ?_
  (refine go ?_; try exact True.intro)
  rw [hmh, decide_eq_true (show ((10 : Nat) : Int) < (k + 1 : Nat) by omega)]
  (refine go ?_; try exact True.intro)
  refine idxB hraw ?_
  (refine go ?_; try exact True.intro)
  refine callL hdc [some 384, some 385, some 386, some 387, some 388] [] rfl ?_
  (refine go ?_; try exact True.intro)
  refine callL (cNewI s0 (s0.hndl (handles.getD 10 0)) 10) [some 384, some 385, some 386, some 387, some 388] [] rfl ?_
  (refine go ?_; try exact True.intro)
  refine cb ⟨Nat.le_of_ble_eq_true rfl, Nat.le_of_ble_eq_true rfl⟩ ?_
  (refine go ?_; try exact True.intro)
  refine cb ⟨(ends_len _ _).symm, Nat.le_of_ble_eq_true rfl⟩ ?_
  (refine go ?_; try exact True.intro)
  refine .mk [(30, 3200), (7, 3328), (8, 3904)] 11 [(30, copR (c0L s0 handles 10) 384)] (by omega) (by omega) (fam_made _ (by decide)) (famX_fix _ _ (by decide) rfl fun j _ hne => ren_fam rfl hne) ?_
  (refine go ?_; try exact True.intro)
  refine .mk _ rfl rfl (ptrs_below (by decide) (by decide)) ?_
  (refine go ?_; try exact True.intro)
  refine .mk _ rfl rfl (copR_below (by decide) _) ?_
  (refine go ?_; try exact True.intro)
theorem lf_new11  (u : 11 < k + 1) :
    (lf_def c l handles picks hpk hn s0 S hsz hp hw0 hns hm hm20 hL h0).1 11 := by
  have hml : (picks.map u8D).length = picks.length := List.length_map ..
  have hmh : (handles.map intD).length = (k + 1 : Nat) := by rw [List.length_map, hm]
  have hlog0 := h0.lgl
  dsimp only at hlog0
  have hraw : handles[11]? = some (handles.getD 11 0) := by rw [List.getD_eq_getElem?_getD, List.getElem?_eq_getElem (by rw [hm]; exact u)]; rfl
  have hdc := handleC s0 hw0 (by omega) (handles.getD 11 0)
  refine RoundF.mk [(31, .dat 10 [])] (famX (firstN (c0L s0 handles) 11) 11) (fam_new _ (by decide)) rfl (famX_below _ _ (by decide)) ?_
  (refine go ?_; try exact True.intro)
  rw [hmh, decide_eq_true (show ((11 : Nat) : Int) < (k + 1 : Nat) by omega)]
  (refine go ?_; try exact True.intro)
  refine idxB hraw ?_
  (refine go ?_; try exact True.intro)
  refine callL hdc [some 384, some 385, some 386, some 387, some 388] [] rfl ?_
  (refine go ?_; try exact True.intro)
  refine callL (cNewI s0 (s0.hndl (handles.getD 11 0)) 11) [some 384, some 385, some 386, some 387, some 388] [] rfl ?_
  (refine go ?_; try exact True.intro)
  refine cb ⟨Nat.le_of_ble_eq_true rfl, Nat.le_of_ble_eq_true rfl⟩ ?_
  (refine go ?_; try exact True.intro)
  refine cb ⟨(ends_len _ _).symm, Nat.le_of_ble_eq_true rfl⟩ ?_
  (refine go ?_; try exact True.intro)
  refine .mk [(31, 3200), (7, 3328), (8, 3904)] 12 [(31, copR (c0L s0 handles 11) 384)] (by omega) (by omega) (fam_made _ (by decide)) (famX_fix _ _ (by decide) rfl fun j _ hne => ren_fam rfl hne) ?_
  (refine go ?_; try exact True.intro)
  refine .mk _ rfl rfl (ptrs_below (by decide) (by decide)) ?_
  (refine go ?_; try exact True.intro)
  refine .mk _ rfl rfl (copR_below (by decide) _) ?_
  (refine go ?_; try exact True.intro)
theorem lf_new12  (u : 12 < k + 1) :
    (lf_def c l handles picks hpk hn s0 S hsz hp hw0 hns hm hm20 hL h0).1 12 := by
  have hml : (picks.map u8D).length = picks.length := List.length_map ..
  have hmh : (handles.map intD).length = (k + 1 : Nat) := by rw [List.length_map, hm]
  have hlog0 := h0.lgl
  dsimp only at hlog0
  have hraw : handles[12]? = some (handles.getD 12 0) := by rw [List.getD_eq_getElem?_getD, List.getElem?_eq_getElem (by rw [hm]; exact u)]; rfl
  have hdc := handleC s0 hw0 (by omega) (handles.getD 12 0)
  refine RoundF.mk [(32, .dat 10 [])] (famX (firstN (c0L s0 handles) 12) 12) (fam_new _ (by decide)) rfl (famX_below _ _ (by decide)) ?_
  (refine go ?_; try exact True.intro)
  rw [hmh, decide_eq_true (show ((12 : Nat) : Int) < (k + 1 : Nat) by omega)]
  (refine go ?_; try exact True.intro)
  refine idxB hraw ?_
  (refine go ?_; try exact True.intro)
  refine callL hdc [some 384, some 385, some 386, some 387, some 388] [] rfl ?_
  (refine go ?_; try exact True.intro)
  refine callL (cNewI s0 (s0.hndl (handles.getD 12 0)) 12) [some 384, some 385, some 386, some 387, some 388] [] rfl ?_
  (refine go ?_; try exact True.intro)
  refine cb ⟨Nat.le_of_ble_eq_true rfl, Nat.le_of_ble_eq_true rfl⟩ ?_
  (refine go ?_; try exact True.intro)
  refine cb ⟨(ends_len _ _).symm, Nat.le_of_ble_eq_true rfl⟩ ?_
  (refine go ?_; try exact True.intro)
  refine .mk [(32, 3200), (7, 3328), (8, 3904)] 13 [(32, copR (c0L s0 handles 12) 384)] (by omega) (by omega) (fam_made _ (by decide)) (famX_fix _ _ (by decide) rfl fun j _ hne => ren_fam rfl hne) ?_
  (refine go ?_; try exact True.intro)
  refine .mk _ rfl rfl (ptrs_below (by decide) (by decide)) ?_
  (refine go ?_; try exact True.intro)
  refine .mk _ rfl rfl (copR_below (by decide) _) ?_
  (refine go ?_; try exact True.intro)
theorem lf_new13  (u : 13 < k + 1) :
    (lf_def c l handles picks hpk hn s0 S hsz hp hw0 hns hm hm20 hL h0).1 13 := by
  have hml : (picks.map u8D).length = picks.length := List.length_map ..
  have hmh : (handles.map intD).length = (k + 1 : Nat) := by rw [List.length_map, hm]
  have hlog0 := h0.lgl
  dsimp only at hlog0
  have hraw : handles[13]? = some (handles.getD 13 0) := by rw [List.getD_eq_getElem?_getD, List.getElem?_eq_getElem (by rw [hm]; exact u)]; rfl
  have hdc := handleC s0 hw0 (by omega) (handles.getD 13 0)
  refine RoundF.mk [(33, .dat 10 [])] (famX (firstN (c0L s0 handles) 13) 13) (fam_new _ (by decide)) rfl (famX_below _ _ (by decide)) ?_
  (refine go ?_; try exact True.intro)
  rw [hmh, decide_eq_true (show ((13 : Nat) : Int) < (k + 1 : Nat) by omega)]
  (refine go ?_; try exact True.intro)
  refine idxB hraw ?_
  (refine go ?_; try exact True.intro)
  refine callL hdc [some 384, some 385, some 386, some 387, some 388] [] rfl ?_
  (refine go ?_; try exact True.intro)
  refine callL (cNewI s0 (s0.hndl (handles.getD 13 0)) 13) [some 384, some 385, some 386, some 387, some 388] [] rfl ?_
  (refine go ?_; try exact True.intro)
  refine cb ⟨Nat.le_of_ble_eq_true rfl, Nat.le_of_ble_eq_true rfl⟩ ?_
  (refine go ?_; try exact True.intro)
  refine cb ⟨(ends_len _ _).symm, Nat.le_of_ble_eq_true rfl⟩ ?_
  (refine go ?_; try exact True.intro)
  refine .mk [(33, 3200), (7, 3328), (8, 3904)] 14 [(33, copR (c0L s0 handles 13) 384)] (by omega) (by omega) (fam_made _ (by decide)) (famX_fix _ _ (by decide) rfl fun j _ hne => ren_fam rfl hne) ?_
  (refine go ?_; try exact True.intro)
  refine .mk _ rfl rfl (ptrs_below (by decide) (by decide)) ?_
  (refine go ?_; try exact True.intro)
  refine .mk _ rfl rfl (copR_below (by decide) _) ?_
  (refine go ?_; try exact True.intro)
theorem lf_new14  (u : 14 < k + 1) :
    (lf_def c l handles picks hpk hn s0 S hsz hp hw0 hns hm hm20 hL h0).1 14 := by
  have hml : (picks.map u8D).length = picks.length := List.length_map ..
  have hmh : (handles.map intD).length = (k + 1 : Nat) := by rw [List.length_map, hm]
  have hlog0 := h0.lgl
  dsimp only at hlog0
  have hraw : handles[14]? = some (handles.getD 14 0) := by rw [List.getD_eq_getElem?_getD, List.getElem?_eq_getElem (by rw [hm]; exact u)]; rfl
  have hdc := handleC s0 hw0 (by omega) (handles.getD 14 0)
  refine RoundF.mk [(34, .dat 10 [])] (famX (firstN (c0L s0 handles) 14) 14) (fam_new _ (by decide)) rfl (famX_below _ _ (by decide)) ?_
  (refine go ?_; try exact True.intro)
  rw [hmh, decide_eq_true (show ((14 : Nat) : Int) < (k + 1 : Nat) by omega)]
  (refine go ?_; try exact True.intro)
  refine idxB hraw ?_
  (refine go ?_; try exact True.intro)
  refine callL hdc [some 384, some 385, some 386, some 387, some 388] [] rfl ?_
  (refine go ?_; try exact True.intro)
  refine callL (cNewI s0 (s0.hndl (handles.getD 14 0)) 14) [some 384, some 385, some 386, some 387, some 388] [] rfl ?_
  (refine go ?_; try exact True.intro)
  refine cb ⟨Nat.le_of_ble_eq_true rfl, Nat.le_of_ble_eq_true rfl⟩ ?_
  (refine go ?_; try exact True.intro)
  refine cb ⟨(ends_len _ _).symm, Nat.le_of_ble_eq_true rfl⟩ ?_
  (refine go ?_; try exact True.intro)
  refine .mk [(34, 3200), (7, 3328), (8, 3904)] 15 [(34, copR (c0L s0 handles 14) 384)] (by omega) (by omega) (fam_made _ (by decide)) (famX_fix _ _ (by decide) rfl fun j _ hne => ren_fam rfl hne) ?_
  (refine go ?_; try exact True.intro)
  refine .mk _ rfl rfl (ptrs_below (by decide) (by decide)) ?_
  (refine go ?_; try exact True.intro)
  refine .mk _ rfl rfl (copR_below (by decide) _) ?_
  (refine go ?_; try exact True.intro)
theorem lf_new15  (u : 15 < k + 1) :
    (lf_def c l handles picks hpk hn s0 S hsz hp hw0 hns hm hm20 hL h0).1 15 := by
  have hml : (picks.map u8D).length = picks.length := List.length_map ..
  have hmh : (handles.map intD).length = (k + 1 : Nat) := by rw [List.length_map, hm]
  have hlog0 := h0.lgl
  dsimp only at hlog0
  have hraw : handles[15]? = some (handles.getD 15 0) := by rw [List.getD_eq_getElem?_getD, List.getElem?_eq_getElem (by rw [hm]; exact u)]; rfl
  have hdc := handleC s0 hw0 (by omega) (handles.getD 15 0)
  refine RoundF.mk [(35, .dat 10 [])] (famX (firstN (c0L s0 handles) 15) 15) (fam_new _ (by decide)) rfl (famX_below _ _ (by decide)) ?_
  (refine go ?_; try exact True.intro)
  rw [hmh, decide_eq_true (show ((15 : Nat) : Int) < (k + 1 : Nat) by omega)]
  (refine go ?_; try exact True.intro)
  refine idxB hraw ?_
  (refine go ?_; try exact True.intro)
  refine callL hdc [some 384, some 385, some 386, some 387, some 388] [] rfl ?_
  (refine go ?_; try exact True.intro)
  refine callL (cNewI s0 (s0.hndl (handles.getD 15 0)) 15) [some 384, some 385, some 386, some 387, some 388] [] rfl ?_
  (refine go ?_; try exact True.intro)
  refine cb ⟨Nat.le_of_ble_eq_true rfl, Nat.le_of_ble_eq_true rfl⟩ ?_
  (refine go ?_; try exact True.intro)
  refine cb ⟨(ends_len _ _).symm, Nat.le_of_ble_eq_true rfl⟩ ?_
  (refine go ?_; try exact True.intro)
  refine .mk [(35, 3200), (7, 3328), (8, 3904)] 16 [(35, copR (c0L s0 handles 15) 384)] (by omega) (by omega) (fam_made _ (by decide)) (famX_fix _ _ (by decide) rfl fun j _ hne => ren_fam rfl hne) ?_
  (refine go ?_; try exact True.intro)
  refine .mk _ rfl rfl (ptrs_below (by decide) (by decide)) ?_
  (refine go ?_; try exact True.intro)
  refine .mk _ rfl rfl (copR_below (by decide) _) ?_
  (refine go ?_; try exact True.intro)
theorem lf_new16  (u : 16 < k + 1) :
    (lf_def c l handles picks hpk hn s0 S hsz hp hw0 hns hm hm20 hL h0).1 16 := by
  have hml : (picks.map u8D).length = picks.length := List.length_map ..
  have hmh : (handles.map intD).length = (k + 1 : Nat) := by rw [List.length_map, hm]
  have hlog0 := h0.lgl
  dsimp only at hlog0
  have hraw : handles[16]? = some (handles.getD 16 0) := by rw [List.getD_eq_getElem?_getD, List.getElem?_eq_getElem (by rw [hm]; exact u)]; rfl
  have hdc := handleC s0 hw0 (by omega) (handles.getD 16 0)
  refine RoundF.mk [(36, .dat 10 [])] (famX (firstN (c0L s0 handles) 16) 16) (fam_new _ (by decide)) rfl (famX_below _ _ (by decide)) ?_
  (refine go ?_; try exact True.intro)
  rw [hmh, decide_eq_true (show ((16 : Nat) : Int) < (k + 1 : Nat) by omega)]
  (refine go ?_; try exact True.intro)
  refine idxB hraw ?_
  (refine go ?_; try exact True.intro)
  refine callL hdc [some 384, some 385, some 386, some 387, some 388] [] rfl ?_
  (refine go ?_; try exact True.intro)
  refine callL (cNewI s0 (s0.hndl (handles.getD 16 0)) 16) [some 384, some 385, some 386, some 387, some 388] [] rfl ?_
  (refine go ?_; try exact True.intro)
  refine cb ⟨Nat.le_of_ble_eq_true rfl, Nat.le_of_ble_eq_true rfl⟩ ?_
  (refine go ?_; try exact True.intro)
  refine cb ⟨(ends_len _ _).symm, Nat.le_of_ble_eq_true rfl⟩ ?_
  (refine go ?_; try exact True.intro)
  refine .mk [(36, 3200), (7, 3328), (8, 3904)] 17 [(36, copR (c0L s0 handles 16) 384)] (by omega) (by omega) (fam_made _ (by decide)) (famX_fix _ _ (by decide) rfl fun j _ hne => ren_fam rfl hne) ?_
  (refine go ?_; try exact True.intro)
  refine .mk _ rfl rfl (ptrs_below (by decide) (by decide)) ?_
  (refine go ?_; try exact True.intro)
  refine .mk _ rfl rfl (copR_below (by decide) _) ?_
  (refine go ?_; try exact True.intro)
theorem lf_new17  (u : 17 < k + 1) :
    (lf_def c l handles picks hpk hn s0 S hsz hp hw0 hns hm hm20 hL h0).1 17 := by
  have hml : (picks.map u8D).length = picks.length := List.length_map ..
  have hmh : (handles.map intD).length = (k + 1 : Nat) := by rw [List.length_map, hm]
  have hlog0 := h0.lgl
  dsimp only at hlog0
  have hraw : handles[17]? = some (handles.getD 17 0) := by rw [List.getD_eq_getElem?_getD, List.getElem?_eq_getElem (by rw [hm]; exact u)]; rfl
  have hdc := handleC s0 hw0 (by omega) (handles.getD 17 0)
  refine RoundF.mk [(37, .dat 10 [])] (famX (firstN (c0L s0 handles) 17) 17) (fam_new _ (by decide)) rfl (famX_below _ _ (by decide)) ?_
  (refine go ?_; try exact True.intro)
  rw [hmh, decide_eq_true (show ((17 : Nat) : Int) < (k + 1 : Nat) by omega)]
  (refine go ?_; try exact True.intro)
  refine idxB hraw ?_
  (refine go ?_; try exact True.intro)
  refine callL hdc [some 384, some 385, some 386, some 387, some 388] [] rfl ?_
  (refine go ?_; try exact True.intro)
  refine callL (cNewI s0 (s0.hndl (handles.getD 17 0)) 17) [some 384, some 385, some 386, some 387, some 388] [] rfl ?_
  (refine go ?_; try exact True.intro)
  refine cb ⟨Nat.le_of_ble_eq_true rfl, Nat.le_of_ble_eq_true rfl⟩ ?_
  (refine go ?_; try exact True.intro)
  refine cb ⟨(ends_len _ _).symm, Nat.le_of_ble_eq_true rfl⟩ ?_
  (refine go ?_; try exact True.intro)
  refine .mk [(37, 3200), (7, 3328), (8, 3904)] 18 [(37, copR (c0L s0 handles 17) 384)] (by omega) (by omega) (fam_made _ (by decide)) (famX_fix _ _ (by decide) rfl fun j _ hne => ren_fam rfl hne) ?_
  (refine go ?_; try exact True.intro)
  refine .mk _ rfl rfl (ptrs_below (by decide) (by decide)) ?_
  (refine go ?_; try exact True.intro)
  refine .mk _ rfl rfl (copR_below (by decide) _) ?_
  (refine go ?_; try exact True.intro)
theorem lf_new18  (u : 18 < k + 1) :
    (lf_def c l handles picks hpk hn s0 S hsz hp hw0 hns hm hm20 hL h0).1 18 := by
  have hml : (picks.map u8D).length = picks.length := List.length_map ..
  have hmh : (handles.map intD).length = (k + 1 : Nat) := by rw [List.length_map, hm]
  have hlog0 := h0.lgl
  dsimp only at hlog0
  have hraw : handles[18]? = some (handles.getD 18 0) := by rw [List.getD_eq_getElem?_getD, List.getElem?_eq_getElem (by rw [hm]; exact u)]; rfl
  have hdc := handleC s0 hw0 (by omega) (handles.getD 18 0)
  refine RoundF.mk [(38, .dat 10 [])] (famX (firstN (c0L s0 handles) 18) 18) (fam_new _ (by decide)) rfl (famX_below _ _ (by decide)) ?_
  (refine go ?_; try exact True.intro)
  rw [hmh, decide_eq_true (show ((18 : Nat) : Int) < (k + 1 : Nat) by omega)]
  (refine go ?_; try exact True.intro)
  refine idxB hraw ?_
  (refine go ?_; try exact True.intro)
  refine callL hdc [some 384, some 385, some 386, some 387, some 388] [] rfl ?_
  (refine go ?_; try exact True.intro)
  refine callL (cNewI s0 (s0.hndl (handles.getD 18 0)) 18) [some 384, some 385, some 386, some 387, some 388] [] rfl ?_
  (refine go ?_; try exact True.intro)
  refine cb ⟨Nat.le_of_ble_eq_true rfl, Nat.le_of_ble_eq_true rfl⟩ ?_
  (refine go ?_; try exact True.intro)
  refine cb ⟨(ends_len _ _).symm, Nat.le_of_ble_eq_true rfl⟩ ?_
  (refine go ?_; try exact True.intro)
  refine .mk [(38, 3200), (7, 3328), (8, 3904)] 19 [(38, copR (c0L s0 handles 18) 384)] (by omega) (by omega) (fam_made _ (by decide)) (famX_fix _ _ (by decide) rfl fun j _ hne => ren_fam rfl hne) ?_
  (refine go ?_; try exact True.intro)
  refine .mk _ rfl rfl (ptrs_below (by decide) (by decide)) ?_
  (refine go ?_; try exact True.intro)
  refine .mk _ rfl rfl (copR_below (by decide) _) ?_
  (refine go ?_; try exact True.intro)
theorem lf_new19  (u : 19 < k + 1) :
    (lf_def c l handles picks hpk hn s0 S hsz hp hw0 hns hm hm20 hL h0).1 19 := by
  have hml : (picks.map u8D).length = picks.length := List.length_map ..
  have hmh : (handles.map intD).length = (k + 1 : Nat) := by rw [List.length_map, hm]
  have hlog0 := h0.lgl
  dsimp only at hlog0
  have hraw : handles[19]? = some (handles.getD 19 0) := by rw [List.getD_eq_getElem?_getD, List.getElem?_eq_getElem (by rw [hm]; exact u)]; rfl
  have hdc := handleC s0 hw0 (by omega) (handles.getD 19 0)
  refine RoundF.mk [(39, .dat 10 [])] (famX (firstN (c0L s0 handles) 19) 19) (fam_new _ (by decide)) rfl (famX_below _ _ (by decide)) ?_
  (refine go ?_; try exact True.intro)
  rw [hmh, decide_eq_true (show ((19 : Nat) : Int) < (k + 1 : Nat) by omega)]
  (refine go ?_; try exact True.intro)
  refine idxB hraw ?_
  (refine go ?_; try exact True.intro)
  refine callL hdc [some 384, some 385, some 386, some 387, some 388] [] rfl ?_
  (refine go ?_; try exact True.intro)
  refine callL (cNewI s0 (s0.hndl (handles.getD 19 0)) 19) [some 384, some 385, some 386, some 387, some 388] [] rfl ?_
  (refine go ?_; try exact True.intro)
  refine cb ⟨Nat.le_of_ble_eq_true rfl, Nat.le_of_ble_eq_true rfl⟩ ?_
  (refine go ?_; try exact True.intro)
  refine cb ⟨(ends_len _ _).symm, Nat.le_of_ble_eq_true rfl⟩ ?_
  (refine go ?_; try exact True.intro)
  refine .mk [(39, 3200), (7, 3328), (8, 3904)] 20 [(39, copR (c0L s0 handles 19) 384)] (by omega) (by omega) (fam_made _ (by decide)) (famX_fix _ _ (by decide) rfl fun j _ hne => ren_fam rfl hne) ?_
  (refine go ?_; try exact True.intro)
  refine .mk _ rfl rfl (ptrs_below (by decide) (by decide)) ?_
  (refine go ?_; try exact True.intro)
  refine .mk _ rfl rfl (copR_below (by decide) _) ?_
  (refine go ?_; try exact True.intro)
theorem lf_ended  {y : Lf} (hy : LfOk (k + 1) n picks.length S s0.m.log s0.m.viol y) (u : y.i < picks.length) {p : Int} (hpp : picks[y.i]? = some p) (pb1 : 0 ≤ p) (pb2 : p ≤ 255) {t : Nat} (htm : p.tmod ((k + 1 : Nat) : Int) = ((t : Nat) : Int)) (htl : t < k + 1) (he : y.es t = true) :
    (lf_def c l handles picks hpk hn s0 S hsz hp hw0 hns hm hm20 hL h0).2.1 y := by
  have hml : (picks.map u8D).length = picks.length := List.length_map ..
  have hmh : (handles.map intD).length = (k + 1 : Nat) := by rw [List.length_map, hm]
  have hlog0 := h0.lgl
  dsimp only at hlog0
  have hyi := hy.i
  refine RoundF.mk [] (famL (firstN y.cs (k + 1))) rfl rfl (famL_below _ (by decide)) ?_
  (refine go ?_; try exact True.intro)
  rw [hml, decide_eq_true (show (y.i : Int) < picks.length by omega)]
  (refine go ?_; try exact True.intro)
  rw [decide_eq_true (show (0 : Int) < ((k + 1 : Nat) : Int) by omega)]
  (refine go ?_; try exact True.intro)
  refine idxB hpp ?_
  (refine go ?_; try exact True.intro)
  refine atB_eq _ htm htl ?_
  (refine go ?_; try exact True.intro)
  refine getB_lit _ (ends_get y.es htl) ?_
  (refine go ?_; try exact True.intro)
  rw [he]
  (refine go ?_; try exact True.intro)
  refine .mk [] { y with i := y.i + 1 } [] (lf_skip hy u) (by dsimp only; omega) rfl (famL_fix _ (by decide)) ?_
  (refine go ?_; try exact True.intro)
  refine boPtrs2 ?_ rfl rfl hm20 (fun j _ => ren_low rfl j) (by decide)
  (refine go ?_; try exact True.intro)
  refine .mk _ rfl rfl trivial ?_
  (refine go ?_; try exact True.intro)
theorem lf_end  {y : Lf} (hy : LfOk (k + 1) n picks.length S s0.m.log s0.m.viol y) (u : ¬ y.i < picks.length) :
    (lf_def c l handles picks hpk hn s0 S hsz hp hw0 hns hm hm20 hL h0).2.1 y := by
  have hml : (picks.map u8D).length = picks.length := List.length_map ..
  have hmh : (handles.map intD).length = (k + 1 : Nat) := by rw [List.length_map, hm]
  have hlog0 := h0.lgl
  dsimp only at hlog0
  have hyi := hy.i
  refine RoundF.mk [] (famL (firstN y.cs (k + 1))) rfl rfl (famL_below _ (by decide)) ?_
  (refine go ?_; try exact True.intro)
  rw [hml, decide_eq_false (show ¬ (y.i : Int) < picks.length by omega)]
  (refine go ?_; try exact True.intro)
  obtain ⟨l1, g1, g2, g3, _⟩ := hy.log
  have hw9 := hy.wds
  have hll := hy.lgl
  have hvv := hy.viol
  generalize y.s = s at *
  refine callL (memoryC s) [some 384, some 385, some 1, some 387, some 388] [] rfl ?_
  (refine go ?_; try exact True.intro)
  refine callL (logC s.m hw9.fits.mem) [some 385, some 1, some 387, some 388] [] rfl ?_
  (refine go ?_; try exact True.intro)
  rw [hmh]
  refine makeB tab_ok (k + 1) [.c (.bool false)] _ rfl (.c _ rfl .nil) rfl rfl (by omega) rfl ?_
  rw [← won_zero l1]
  (refine go ?_; try exact True.intro)
  have hln : s.m.log.length = s0.m.log.length + l1.length := by rw [g1, List.length_append]
  refine loopB tab_ok mix [2, 9, 10, 13, 19] [384, 385, 1, 387, 388, 3328] (fun q : Nat => [(20, .ac 7 1 (k + 1)), (21, V.int ((s0.m.log.length + q : Nat) : Int))]) (fun q => [(7, .dat 1 (endsD (wonB l1 q) (k + 1)))]) (fun q => q ≤ l1.length) (fun q => l1.length - q) [(7, 3584)] 0 rfl (Nat.zero_le _) (by (refine go ?_; try exact True.intro)) ?_
  intro q hq
  (refine go ?_; try exact True.intro)
  by_cases v : q < l1.length
  case neg =>
    rw [decide_eq_false (show ¬ ((s0.m.log.length + q : Nat) : Int) < (s.m.log.length : Int) by omega)]
    (refine go ?_; try exact True.intro)
    refine callL (memoryC s) [some 384, some 385, some 1, some 387, some 388] [] rfl ?_
    (refine go ?_; try exact True.intro)
    refine callL (violC s.m) [some 385, some 1, some 387, some 388] [] rfl ?_
    (refine go ?_; try exact True.intro)
    rw [decide_eq_true hvv]
    exact .same rfl
  rw [decide_eq_true (show ((s0.m.log.length + q : Nat) : Int) < (s.m.log.length : Int) by omega)]
  obtain ⟨a, ha⟩ := get_lt v
  have hla : s.m.log[s0.m.log.length + q]? = some a := by rw [g1, List.getElem?_append_right (by omega), Nat.add_sub_cancel_left, ha]
  obtain ⟨ak, ath, aix, awn⟩ := g2 a (List.mem_of_getElem? ha)
  have hno := won_no ha
  have hye := fun hw t => @won_yes _ _ _ ha hw t
  have hnt := fun hw t => @won_not _ _ _ ha hw g3 t
  (refine go ?_; try exact True.intro)
  refine atB (show s0.m.log.length + q < s.m.log.length by omega) ?_
  (refine go ?_; try exact True.intro)
  refine getB hla ?_
  (refine go ?_; try exact True.intro)
  unfold Acc.won at awn hno hye hnt
  obtain ⟨t, ht⟩ : ∃ t : Nat, a.th = (t : Int) := ⟨a.th.toNat, by omega⟩
  have htM : t < (k + 1) := by omega
  rcases ak with ak | ak
  · rw [decide_eq_true (show a.kind = 1 from ak)]
    (refine go ?_; try exact True.intro)
    rw [decide_eq_false (show ¬ a.th < 0 by omega)]
    (refine go ?_; try exact True.intro)
    rw [hmh, decide_eq_false (show ¬ (((k + 1) : Nat) : Int) ≤ a.th by omega)]
    (refine go ?_; try exact True.intro)
    rw [decide_eq_false (show ¬ a.idx < 1 by omega)]
    (refine go ?_; try exact True.intro)
    rw [decide_eq_false (show ¬ a.kind = 3 by omega)]
    (refine go ?_; try exact True.intro)
    rw [show wonB l1 q = wonB l1 (q + 1) from (hno (by rw [decide_eq_false (show ¬ a.kind = 3 by omega)]; rfl)).symm]
    refine .mk [] (q + 1) (by omega) (by omega) ?_
    (refine go ?_; try exact True.intro)
  rw [decide_eq_false (show ¬ a.kind = 1 by omega)]
  (refine go ?_; try exact True.intro)
  rw [decide_eq_true (show a.kind = 3 from ak)]
  (refine go ?_; try exact True.intro)
  rw [decide_eq_false (show ¬ a.th < 0 by omega)]
  (refine go ?_; try exact True.intro)
  rw [hmh, decide_eq_false (show ¬ (((k + 1) : Nat) : Int) ≤ a.th by omega)]
  (refine go ?_; try exact True.intro)
  rw [decide_eq_false (show ¬ a.idx < 1 by omega)]
  (refine go ?_; try exact True.intro)
  rw [decide_eq_true (show a.kind = 3 from ak)]
  (refine go ?_; try exact True.intro)
  rcases Bool.eq_false_or_eq_true a.ok with hok | hok
  · obtain ⟨o1, o2, o3⟩ := awn (by rw [decide_eq_true ak, hok]; rfl)
    rw [hok]
    (refine go ?_; try exact True.intro)
    refine atB_eq t ht htM ?_
    (refine go ?_; try exact True.intro)
    refine getB_lit _ (ends_get _ htM) ?_
    (refine go ?_; try exact True.intro)
    rw [hnt (by rw [decide_eq_true ak, hok]; rfl) t ht]
    (refine go ?_; try exact True.intro)
    refine dcallB (rStateC a.old o1.1) ?_
    (refine go ?_; try exact True.intro)
    rw [decide_eq_true (show a.old % 4 = 1 from o2)]
    (refine go ?_; try exact True.intro)
    refine dcallB (rGenC a.old ⟨o1.1, by omega⟩) ?_
    (refine go ?_; try exact True.intro)
    refine dcallB (rWordC (a.old / 4) 3 (by omega)) ?_
    (refine go ?_; try exact True.intro)
    rw [decide_eq_true (show a.new = 4 * (a.old / 4) + 3 from o3)]
    (refine go ?_; try exact True.intro)
    refine atB_eq t ht htM ?_
    (refine go ?_; try exact True.intro)
    refine getB_lit _ (ends_get _ htM) ?_
    (refine go ?_; try exact True.intro)
    rw [ends_set _ htM, ← hye (by rw [decide_eq_true ak, hok]; rfl) t ht]
    refine .mk [] (q + 1) (by omega) (by omega) ?_
    (refine go ?_; try exact True.intro)
  · rw [hok]
    (refine go ?_; try exact True.intro)
    rw [show wonB l1 q = wonB l1 (q + 1) from (hno (by rw [hok, Bool.and_false])).symm]
    refine .mk [] (q + 1) (by omega) (by omega) ?_
    (refine go ?_; try exact True.intro)
theorem lf_run0  {y : Lf} (hy : LfOk (k + 1) n picks.length S s0.m.log s0.m.viol y) (u : y.i < picks.length) {p : Int} (hpp : picks[y.i]? = some p) (pb1 : 0 ≤ p) (pb2 : p ≤ 255) (htm : p.tmod ((k + 1 : Nat) : Int) = ((0 : Nat) : Int)) (htl : 0 < k + 1) (he : y.es 0 = false) :
    (lf_def c l handles picks hpk hn s0 S hsz hp hw0 hns hm hm20 hL h0).2.1 y := by
  have hml : (picks.map u8D).length = picks.length := List.length_map ..
  have hmh : (handles.map intD).length = (k + 1 : Nat) := by rw [List.length_map, hm]
  have hlog0 := h0.lgl
  dsimp only at hlog0
  have hyi := hy.i
  obtain ⟨w1, _, _, _⟩ := hy.cok 0 htl he
  have a1 := cStepC (y.cs 0) y.s hy.wds w1
  have hn := lf_next hy hL u htl he
  obtain ⟨c1, s1, hr⟩ : ∃ c1 s1, cStep (y.cs 0) y.s = (c1, s1) := ⟨_, _, rfl⟩
  unfold Lf.next at hn
  rw [hr] at a1 hn
  dsimp only at a1 hn
  refine RoundF.mk [(20, copR (y.cs 0) 384)] (famX (firstN y.cs (k + 1)) 0) (fam_run y.cs htl hm20) rfl (famX_below _ _ (by decide)) ?_
  (refine go ?_; try exact True.intro)
  rw [hml, decide_eq_true (show (y.i : Int) < picks.length by omega)]
  (refine go ?_; try exact True.intro)
  rw [decide_eq_true (show (0 : Int) < ((k + 1 : Nat) : Int) by omega)]
  (refine go ?_; try exact True.intro)
  refine idxB hpp ?_
  (refine go ?_; try exact True.intro)
  refine atB_eq _ htm htl ?_
  (refine go ?_; try exact True.intro)
  refine getB_lit _ (ends_get y.es htl) ?_
  (refine go ?_; try exact True.intro)
  rw [he]
  (refine go ?_; try exact True.intro)
  refine atB_eq 0 htm htl ?_
  (refine go ?_; try exact True.intro)
  rw [show (ptrsL (k + 1))[0 + 0]? = some [V.p 20 10 0 0] from by rw [Nat.zero_add]; exact ptrs_get htl]
  (refine go ?_; try exact True.intro)
  refine callL a1 [some 20, some 384, some 385, some 1, some 387, some 388] [] rfl ?_
  (refine go ?_; try exact True.intro)
  refine atB_eq 0 htm htl ?_
  (refine go ?_; try exact True.intro)
  refine getB_lit _ (ends_get y.es htl) ?_
  (refine go ?_; try exact True.intro)
  refine .mk [(1, 4480)] _ [(20, copR c1 384)] hn (by dsimp only; omega) (fam_ran y.cs c1 htl hm20) (famX_fix _ _ (by decide) rfl fun j _ _ => ren_low rfl j) ?_
  (refine go ?_; try exact True.intro)
  refine boPtrs2 ?_ rfl rfl hm20 (fun j _ => ren_low rfl j) (by decide)
  (refine go ?_; try exact True.intro)
  refine .mk _ rfl (congrArg (B.dat 1) (ends_set y.es htl _)) trivial ?_
  (refine go ?_; try exact True.intro)
  refine .mk _ rfl (copR_ren (a := 384) rfl c1).symm (copR_below (a := 384) (b := 2624) (by decide) c1) ?_
  (refine go ?_; try exact True.intro)
theorem lf_run1  {y : Lf} (hy : LfOk (k + 1) n picks.length S s0.m.log s0.m.viol y) (u : y.i < picks.length) {p : Int} (hpp : picks[y.i]? = some p) (pb1 : 0 ≤ p) (pb2 : p ≤ 255) (htm : p.tmod ((k + 1 : Nat) : Int) = ((1 : Nat) : Int)) (htl : 1 < k + 1) (he : y.es 1 = false) :
    (lf_def c l handles picks hpk hn s0 S hsz hp hw0 hns hm hm20 hL h0).2.1 y := by
  have hml : (picks.map u8D).length = picks.length := List.length_map ..
  have hmh : (handles.map intD).length = (k + 1 : Nat) := by rw [List.length_map, hm]
  have hlog0 := h0.lgl
  dsimp only at hlog0
  have hyi := hy.i
  obtain ⟨w1, _, _, _⟩ := hy.cok 1 htl he
  have a1 := cStepC (y.cs 1) y.s hy.wds w1
  have hn := lf_next hy hL u htl he
  obtain ⟨c1, s1, hr⟩ : ∃ c1 s1, cStep (y.cs 1) y.s = (c1, s1) := ⟨_, _, rfl⟩
  unfold Lf.next at hn
  rw [hr] at a1 hn
  dsimp only at a1 hn
  refine RoundF.mk [(21, copR (y.cs 1) 384)] (famX (firstN y.cs (k + 1)) 1) (fam_run y.cs htl hm20) rfl (famX_below _ _ (by decide)) ?_
  (refine go ?_; try exact True.intro)
  rw [hml, decide_eq_true (show (y.i : Int) < picks.length by omega)]
  (refine go ?_; try exact True.intro)
  rw [decide_eq_true (show (0 : Int) < ((k + 1 : Nat) : Int) by omega)]
  (refine go ?_; try exact True.intro)
  refine idxB hpp ?_
  (refine go ?_; try exact True.intro)
  refine atB_eq _ htm htl ?_
  (refine go ?_; try exact True.intro)
  refine getB_lit _ (ends_get y.es htl) ?_
  (refine go ?_; try exact True.intro)
  rw [he]
  (refine go ?_; try exact True.intro)
  refine atB_eq 1 htm htl ?_
  (refine go ?_; try exact True.intro)
  rw [show (ptrsL (k + 1))[0 + 1]? = some [V.p 21 10 0 0] from by rw [Nat.zero_add]; exact ptrs_get htl]
  (refine go ?_; try exact True.intro)
  refine callL a1 [some 21, some 384, some 385, some 1, some 387, some 388] [] rfl ?_
  (refine go ?_; try exact True.intro)
  refine atB_eq 1 htm htl ?_
  (refine go ?_; try exact True.intro)
  refine getB_lit _ (ends_get y.es htl) ?_
  (refine go ?_; try exact True.intro)
  refine .mk [(1, 4480)] _ [(21, copR c1 384)] hn (by dsimp only; omega) (fam_ran y.cs c1 htl hm20) (famX_fix _ _ (by decide) rfl fun j _ _ => ren_low rfl j) ?_
  (refine go ?_; try exact True.intro)
  refine boPtrs2 ?_ rfl rfl hm20 (fun j _ => ren_low rfl j) (by decide)
  (refine go ?_; try exact True.intro)
  refine .mk _ rfl (congrArg (B.dat 1) (ends_set y.es htl _)) trivial ?_
  (refine go ?_; try exact True.intro)
  refine .mk _ rfl (copR_ren (a := 384) rfl c1).symm (copR_below (a := 384) (b := 2624) (by decide) c1) ?_
  (refine go ?_; try exact True.intro)
theorem lf_run2  {y : Lf} (hy : LfOk (k + 1) n picks.length S s0.m.log s0.m.viol y) (u : y.i < picks.length) {p : Int} (hpp : picks[y.i]? = some p) (pb1 : 0 ≤ p) (pb2 : p ≤ 255) (htm : p.tmod ((k + 1 : Nat) : Int) = ((2 : Nat) : Int)) (htl : 2 < k + 1) (he : y.es 2 = false) :
    (lf_def c l handles picks hpk hn s0 S hsz hp hw0 hns hm hm20 hL h0).2.1 y := by
  have hml : (picks.map u8D).length = picks.length := List.length_map ..
  have hmh : (handles.map intD).length = (k + 1 : Nat) := by rw [List.length_map, hm]
  have hlog0 := h0.lgl
  dsimp only at hlog0
  have hyi := hy.i
  obtain ⟨w1, _, _, _⟩ := hy.cok 2 htl he
  have a1 := cStepC (y.cs 2) y.s hy.wds w1
  have hn := lf_next hy hL u htl he
  obtain ⟨c1, s1, hr⟩ : ∃ c1 s1, cStep (y.cs 2) y.s = (c1, s1) := ⟨_, _, rfl⟩
  unfold Lf.next at hn
  rw [hr] at a1 hn
  dsimp only at a1 hn
  refine RoundF.mk [(22, copR (y.cs 2) 384)] (famX (firstN y.cs (k + 1)) 2) (fam_run y.cs htl hm20) rfl (famX_below _ _ (by decide)) ?_
  (refine go ?_; try exact True.intro)
  rw [hml, decide_eq_true (show (y.i : Int) < picks.length by omega)]
  (refine go ?_; try exact True.intro)
  rw [decide_eq_true (show (0 : Int) < ((k + 1 : Nat) : Int) by omega)]
  (refine go ?_; try exact True.intro)
  refine idxB hpp ?_
  (refine go ?_; try exact True.intro)
  refine atB_eq _ htm htl ?_
  (refine go ?_; try exact True.intro)
  refine getB_lit _ (ends_get y.es htl) ?_
  (refine go ?_; try exact True.intro)
  rw [he]
  (refine go ?_; try exact True.intro)
  refine atB_eq 2 htm htl ?_
  (refine go ?_; try exact True.intro)
  rw [show (ptrsL (k + 1))[0 + 2]? = some [V.p 22 10 0 0] from by rw [Nat.zero_add]; exact ptrs_get htl]
  (refine go ?_; try exact True.intro)
  refine callL a1 [some 22, some 384, some 385, some 1, some 387, some 388] [] rfl ?_
  (refine go ?_; try exact True.intro)
  refine atB_eq 2 htm htl ?_
  (refine go ?_; try exact True.intro)
  refine getB_lit _ (ends_get y.es htl) ?_
  (refine go ?_; try exact True.intro)
  refine .mk [(1, 4480)] _ [(22, copR c1 384)] hn (by dsimp only; omega) (fam_ran y.cs c1 htl hm20) (famX_fix _ _ (by decide) rfl fun j _ _ => ren_low rfl j) ?_
  (refine go ?_; try exact True.intro)
  refine boPtrs2 ?_ rfl rfl hm20 (fun j _ => ren_low rfl j) (by decide)
  (refine go ?_; try exact True.intro)
  refine .mk _ rfl (congrArg (B.dat 1) (ends_set y.es htl _)) trivial ?_
  (refine go ?_; try exact True.intro)
  refine .mk _ rfl (copR_ren (a := 384) rfl c1).symm (copR_below (a := 384) (b := 2624) (by decide) c1) ?_
  (refine go ?_; try exact True.intro)
theorem lf_run3  {y : Lf} (hy : LfOk (k + 1) n picks.length S s0.m.log s0.m.viol y) (u : y.i < picks.length) {p : Int} (hpp : picks[y.i]? = some p) (pb1 : 0 ≤ p) (pb2 : p ≤ 255) (htm : p.tmod ((k + 1 : Nat) : Int) = ((3 : Nat) : Int)) (htl : 3 < k + 1) (he : y.es 3 = false) :
    (lf_def c l handles picks hpk hn s0 S hsz hp hw0 hns hm hm20 hL h0).2.1 y := by
  have hml : (picks.map u8D).length = picks.length := List.length_map ..
  have hmh : (handles.map intD).length = (k + 1 : Nat) := by rw [List.length_map, hm]
  have hlog0 := h0.lgl
  dsimp only at hlog0
  have hyi := hy.i
  obtain ⟨w1, _, _, _⟩ := hy.cok 3 htl he
  have a1 := cStepC (y.cs 3) y.s hy.wds w1
  have hn := lf_next hy hL u htl he
  obtain ⟨c1, s1, hr⟩ : ∃ c1 s1, cStep (y.cs 3) y.s = (c1, s1) := ⟨_, _, rfl⟩
  unfold Lf.next at hn
  rw [hr] at a1 hn
  dsimp only at a1 hn
  refine RoundF.mk [(23, copR (y.cs 3) 384)] (famX (firstN y.cs (k + 1)) 3) (fam_run y.cs htl hm20) rfl (famX_below _ _ (by decide)) ?_
  (refine go ?_; try exact True.intro)
  rw [hml, decide_eq_true (show (y.i : Int) < picks.length by omega)]
  (refine go ?_; try exact True.intro)
  rw [decide_eq_true (show (0 : Int) < ((k + 1 : Nat) : Int) by omega)]
  (refine go ?_; try exact True.intro)
  refine idxB hpp ?_
  (refine go ?_; try exact True.intro)
  refine atB_eq _ htm htl ?_
  (refine go ?_; try exact True.intro)
  refine getB_lit _ (ends_get y.es htl) ?_
  (refine go ?_; try exact True.intro)
  rw [he]
  (refine go ?_; try exact True.intro)
  refine atB_eq 3 htm htl ?_
  (refine go ?_; try exact True.intro)
  rw [show (ptrsL (k + 1))[0 + 3]? = some [V.p 23 10 0 0] from by rw [Nat.zero_add]; exact ptrs_get htl]
  (refine go ?_; try exact True.intro)
  refine callL a1 [some 23, some 384, some 385, some 1, some 387, some 388] [] rfl ?_
  (refine go ?_; try exact True.intro)
  refine atB_eq 3 htm htl ?_
  (refine go ?_; try exact True.intro)
  refine getB_lit _ (ends_get y.es htl) ?_
  (refine go ?_; try exact True.intro)
  refine .mk [(1, 4480)] _ [(23, copR c1 384)] hn (by dsimp only; omega) (fam_ran y.cs c1 htl hm20) (famX_fix _ _ (by decide) rfl fun j _ _ => ren_low rfl j) ?_
  (refine go ?_; try exact True.intro)
  refine boPtrs2 ?_ rfl rfl hm20 (fun j _ => ren_low rfl j) (by decide)
  (refine go ?_; try exact True.intro)
  refine .mk _ rfl (congrArg (B.dat 1) (ends_set y.es htl _)) trivial ?_
  (refine go ?_; try exact True.intro)
  refine .mk _ rfl (copR_ren (a := 384) rfl c1).symm (copR_below (a := 384) (b := 2624) (by decide) c1) ?_
  (refine go ?_; try exact True.intro)
theorem lf_run4  {y : Lf} (hy : LfOk (k + 1) n picks.length S s0.m.log s0.m.viol y) (u : y.i < picks.length) {p : Int} (hpp : picks[y.i]? = some p) (pb1 : 0 ≤ p) (pb2 : p ≤ 255) (htm : p.tmod ((k + 1 : Nat) : Int) = ((4 : Nat) : Int)) (htl : 4 < k + 1) (he : y.es 4 = false) :
    (lf_def c l handles picks hpk hn s0 S hsz hp hw0 hns hm hm20 hL h0).2.1 y := by
  have hml : (picks.map u8D).length = picks.length := List.length_map ..
  have hmh : (handles.map intD).length = (k + 1 : Nat) := by rw [List.length_map, hm]
  have hlog0 := h0.lgl
  dsimp only at hlog0
  have hyi := hy.i
  obtain ⟨w1, _, _, _⟩ := hy.cok 4 htl he
  have a1 := cStepC (y.cs 4) y.s hy.wds w1
  have hn := lf_next hy hL u htl he
  obtain ⟨c1, s1, hr⟩ : ∃ c1 s1, cStep (y.cs 4) y.s = (c1, s1) := ⟨_, _, rfl⟩
  unfold Lf.next at hn
  rw [hr] at a1 hn
  dsimp only at a1 hn
  refine RoundF.mk [(24, copR (y.cs 4) 384)] (famX (firstN y.cs (k + 1)) 4) (fam_run y.cs htl hm20) rfl (famX_below _ _ (by decide)) ?_
  (refine go ?_; try exact True.intro)
  rw [hml, decide_eq_true (show (y.i : Int) < picks.length by omega)]
  (refine go ?_; try exact True.intro)
  rw [decide_eq_true (show (0 : Int) < ((k + 1 : Nat) : Int) by omega)]
  (refine go ?_; try exact True.intro)
  refine idxB hpp ?_
  (refine go ?_; try exact True.intro)
  refine atB_eq _ htm htl ?_
  (refine go ?_; try exact True.intro)
  refine getB_lit _ (ends_get y.es htl) ?_
  (refine go ?_; try exact True.intro)
  rw [he]
  (refine go ?_; try exact True.intro)
  refine atB_eq 4 htm htl ?_
  (refine go ?_; try exact True.intro)
  rw [show (ptrsL (k + 1))[0 + 4]? = some [V.p 24 10 0 0] from by rw [Nat.zero_add]; exact ptrs_get htl]
  (refine go ?_; try exact True.intro)
  refine callL a1 [some 24, some 384, some 385, some 1, some 387, some 388] [] rfl ?_
  (refine go ?_; try exact True.intro)
  refine atB_eq 4 htm htl ?_
  (refine go ?_; try exact True.intro)
  refine getB_lit _ (ends_get y.es htl) ?_
  (refine go ?_; try exact True.intro)
  refine .mk [(1, 4480)] _ [(24, copR c1 384)] hn (by dsimp only; omega) (fam_ran y.cs c1 htl hm20) (famX_fix _ _ (by decide) rfl fun j _ _ => ren_low rfl j) ?_
  (refine go ?_; try exact True.intro)
  refine boPtrs2 ?_ rfl rfl hm20 (fun j _ => ren_low rfl j) (by decide)
  (refine go ?_; try exact True.intro)
  refine .mk _ rfl (congrArg (B.dat 1) (ends_set y.es htl _)) trivial ?_
  (refine go ?_; try exact True.intro)
  refine .mk _ rfl (copR_ren (a := 384) rfl c1).symm (copR_below (a := 384) (b := 2624) (by decide) c1) ?_
  (refine go ?_; try exact True.intro)
theorem lf_run5  {y : Lf} (hy : LfOk (k + 1) n picks.length S s0.m.log s0.m.viol y) (u : y.i < picks.length) {p : Int} (hpp : picks[y.i]? = some p) (pb1 : 0 ≤ p) (pb2 : p ≤ 255) (htm : p.tmod ((k + 1 : Nat) : Int) = ((5 : Nat) : Int)) (htl : 5 < k + 1) (he : y.es 5 = false) :
    (lf_def c l handles picks hpk hn s0 S hsz hp hw0 hns hm hm20 hL h0).2.1 y := by
  have hml : (picks.map u8D).length = picks.length := List.length_map ..
  have hmh : (handles.map intD).length = (k + 1 : Nat) := by rw [List.length_map, hm]
  have hlog0 := h0.lgl
  dsimp only at hlog0
  have hyi := hy.i
  obtain ⟨w1, _, _, _⟩ := hy.cok 5 htl he
  have a1 := cStepC (y.cs 5) y.s hy.wds w1
  have hn := lf_next hy hL u htl he
  obtain ⟨c1, s1, hr⟩ : ∃ c1 s1, cStep (y.cs 5) y.s = (c1, s1) := ⟨_, _, rfl⟩
  unfold Lf.next at hn
  rw [hr] at a1 hn
  dsimp only at a1 hn
  refine RoundF.mk [(25, copR (y.cs 5) 384)] (famX (firstN y.cs (k + 1)) 5) (fam_run y.cs htl hm20) rfl (famX_below _ _ (by decide)) ?_
  (refine go ?_; try exact True.intro)
  rw [hml, decide_eq_true (show (y.i : Int) < picks.length by omega)]
  (refine go ?_; try exact True.intro)
  rw [decide_eq_true (show (0 : Int) < ((k + 1 : Nat) : Int) by omega)]
  (refine go ?_; try exact True.intro)
  refine idxB hpp ?_
  (refine go ?_; try exact True.intro)
  refine atB_eq _ htm htl ?_
  (refine go ?_; try exact True.intro)
  refine getB_lit _ (ends_get y.es htl) ?_
  (refine go ?_; try exact True.intro)
  rw [he]
  (refine go ?_; try exact True.intro)
  refine atB_eq 5 htm htl ?_
  (refine go ?_; try exact True.intro)
  rw [show (ptrsL (k + 1))[0 + 5]? = some [V.p 25 10 0 0] from by rw [Nat.zero_add]; exact ptrs_get htl]
  (refine go ?_; try exact True.intro)
  refine callL a1 [some 25, some 384, some 385, some 1, some 387, some 388] [] rfl ?_
  (refine go ?_; try exact True.intro)
  refine atB_eq 5 htm htl ?_
  (refine go ?_; try exact True.intro)
  refine getB_lit _ (ends_get y.es htl) ?_
  (refine go ?_; try exact True.intro)
  refine .mk [(1, 4480)] _ [(25, copR c1 384)] hn (by dsimp only; omega) (fam_ran y.cs c1 htl hm20) (famX_fix _ _ (by decide) rfl fun j _ _ => ren_low rfl j) ?_
  (refine go ?_; try exact True.intro)
  refine boPtrs2 ?_ rfl rfl hm20 (fun j _ => ren_low rfl j) (by decide)
  (refine go ?_; try exact True.intro)
  refine .mk _ rfl (congrArg (B.dat 1) (ends_set y.es htl _)) trivial ?_
  (refine go ?_; try exact True.intro)
  refine .mk _ rfl (copR_ren (a := 384) rfl c1).symm (copR_below (a := 384) (b := 2624) (by decide) c1) ?_
  (refine go ?_; try exact True.intro)
theorem lf_run6  {y : Lf} (hy : LfOk (k + 1) n picks.length S s0.m.log s0.m.viol y) (u : y.i < picks.length) {p : Int} (hpp : picks[y.i]? = some p) (pb1 : 0 ≤ p) (pb2 : p ≤ 255) (htm : p.tmod ((k + 1 : Nat) : Int) = ((6 : Nat) : Int)) (htl : 6 < k + 1) (he : y.es 6 = false) :
    (lf_def c l handles picks hpk hn s0 S hsz hp hw0 hns hm hm20 hL h0).2.1 y := by
  have hml : (picks.map u8D).length = picks.length := List.length_map ..
  have hmh : (handles.map intD).length = (k + 1 : Nat) := by rw [List.length_map, hm]
  have hlog0 := h0.lgl
  dsimp only at hlog0
  have hyi := hy.i
  obtain ⟨w1, _, _, _⟩ := hy.cok 6 htl he
  have a1 := cStepC (y.cs 6) y.s hy.wds w1
  have hn := lf_next hy hL u htl he
  obtain ⟨c1, s1, hr⟩ : ∃ c1 s1, cStep (y.cs 6) y.s = (c1, s1) := ⟨_, _, rfl⟩
  unfold Lf.next at hn
  rw [hr] at a1 hn
  dsimp only at a1 hn
  refine RoundF.mk [(26, copR (y.cs 6) 384)] (famX (firstN y.cs (k + 1)) 6) (fam_run y.cs htl hm20) rfl (famX_below _ _ (by decide)) ?_
  (refine go ?_; try exact True.intro)
  rw [hml, decide_eq_true (show (y.i : Int) < picks.length by omega)]
  (refine go ?_; try exact True.intro)
  rw [decide_eq_true (show (0 : Int) < ((k + 1 : Nat) : Int) by omega)]
  (refine go ?_; try exact True.intro)
  refine idxB hpp ?_
  (refine go ?_; try exact True.intro)
  refine atB_eq _ htm htl ?_
  (refine go ?_; try exact True.intro)
  refine getB_lit _ (ends_get y.es htl) ?_
  (refine go ?_; try exact True.intro)
  rw [he]
  (refine go ?_; try exact True.intro)
  refine atB_eq 6 htm htl ?_
  (refine go ?_; try exact True.intro)
  rw [show (ptrsL (k + 1))[0 + 6]? = some [V.p 26 10 0 0] from by rw [Nat.zero_add]; exact ptrs_get htl]
  (refine go ?_; try exact True.intro)
  refine callL a1 [some 26, some 384, some 385, some 1, some 387, some 388] [] rfl ?_
  (refine go ?_; try exact True.intro)
  refine atB_eq 6 htm htl ?_
  (refine go ?_; try exact True.intro)
  refine getB_lit _ (ends_get y.es htl) ?_
  (refine go ?_; try exact True.intro)
  refine .mk [(1, 4480)] _ [(26, copR c1 384)] hn (by dsimp only; omega) (fam_ran y.cs c1 htl hm20) (famX_fix _ _ (by decide) rfl fun j _ _ => ren_low rfl j) ?_
  (refine go ?_; try exact True.intro)
  refine boPtrs2 ?_ rfl rfl hm20 (fun j _ => ren_low rfl j) (by decide)
  (refine go ?_; try exact True.intro)
  refine .mk _ rfl (congrArg (B.dat 1) (ends_set y.es htl _)) trivial ?_
  (refine go ?_; try exact True.intro)
  refine .mk _ rfl (copR_ren (a := 384) rfl c1).symm (copR_below (a := 384) (b := 2624) (by decide) c1) ?_
  (refine go ?_; try exact True.intro)
theorem lf_run7  {y : Lf} (hy : LfOk (k + 1) n picks.length S s0.m.log s0.m.viol y) (u : y.i < picks.length) {p : Int} (hpp : picks[y.i]? = some p) (pb1 : 0 ≤ p) (pb2 : p ≤ 255) (htm : p.tmod ((k + 1 : Nat) : Int) = ((7 : Nat) : Int)) (htl : 7 < k + 1) (he : y.es 7 = false) :
    (lf_def c l handles picks hpk hn s0 S hsz hp hw0 hns hm hm20 hL h0).2.1 y := by
  have hml : (picks.map u8D).length = picks.length := List.length_map ..
  have hmh : (handles.map intD).length = (k + 1 : Nat) := by rw [List.length_map, hm]
  have hlog0 := h0.lgl
  dsimp only at hlog0
  have hyi := hy.i
  obtain ⟨w1, _, _, _⟩ := hy.cok 7 htl he
  have a1 := cStepC (y.cs 7) y.s hy.wds w1
  have hn := lf_next hy hL u htl he
  obtain ⟨c1, s1, hr⟩ : ∃ c1 s1, cStep (y.cs 7) y.s = (c1, s1) := ⟨_, _, rfl⟩
  unfold Lf.next at hn
  rw [hr] at a1 hn
  dsimp only at a1 hn
  refine RoundF.mk [(27, copR (y.cs 7) 384)] (famX (firstN y.cs (k + 1)) 7) (fam_run y.cs htl hm20) rfl (famX_below _ _ (by decide)) ?_
  (refine go ?_; try exact True.intro)
  rw [hml, decide_eq_true (show (y.i : Int) < picks.length by omega)]
  (refine go ?_; try exact True.intro)
  rw [decide_eq_true (show (0 : Int) < ((k + 1 : Nat) : Int) by omega)]
  (refine go ?_; try exact True.intro)
  refine idxB hpp ?_
  (refine go ?_; try exact True.intro)
  refine atB_eq _ htm htl ?_
  (refine go ?_; try exact True.intro)
  refine getB_lit _ (ends_get y.es htl) ?_
  (refine go ?_; try exact True.intro)
  rw [he]
  (refine go ?_; try exact True.intro)
  refine atB_eq 7 htm htl ?_
  (refine go ?_; try exact True.intro)
  rw [show (ptrsL (k + 1))[0 + 7]? = some [V.p 27 10 0 0] from by rw [Nat.zero_add]; exact ptrs_get htl]
  (refine go ?_; try exact True.intro)
  refine callL a1 [some 27, some 384, some 385, some 1, some 387, some 388] [] rfl ?_
  (refine go ?_; try exact True.intro)
  refine atB_eq 7 htm htl ?_
  (refine go ?_; try exact True.intro)
  refine getB_lit _ (ends_get y.es htl) ?_
  (refine go ?_; try exact True.intro)
  refine .mk [(1, 4480)] _ [(27, copR c1 384)] hn (by dsimp only; omega) (fam_ran y.cs c1 htl hm20) (famX_fix _ _ (by decide) rfl fun j _ _ => ren_low rfl j) ?_
  (refine go ?_; try exact True.intro)
  refine boPtrs2 ?_ rfl rfl hm20 (fun j _ => ren_low rfl j) (by decide)
  (refine go ?_; try exact True.intro)
  refine .mk _ rfl (congrArg (B.dat 1) (ends_set y.es htl _)) trivial ?_
  (refine go ?_; try exact True.intro)
  refine .mk _ rfl (copR_ren (a := 384) rfl c1).symm (copR_below (a := 384) (b := 2624) (by decide) c1) ?_
  (refine go ?_; try exact True.intro)
theorem lf_run8  {y : Lf} (hy : LfOk (k + 1) n picks.length S s0.m.log s0.m.viol y) (u : y.i < picks.length) {p : Int} (hpp : picks[y.i]? = some p) (pb1 : 0 ≤ p) (pb2 : p ≤ 255) (htm : p.tmod ((k + 1 : Nat) : Int) = ((8 : Nat) : Int)) (htl : 8 < k + 1) (he : y.es 8 = false) :
    (lf_def c l handles picks hpk hn s0 S hsz hp hw0 hns hm hm20 hL h0).2.1 y := by
  have hml : (picks.map u8D).length = picks.length := List.length_map ..
  have hmh : (handles.map intD).length = (k + 1 : Nat) := by rw [List.length_map, hm]
  have hlog0 := h0.lgl
  dsimp only at hlog0
  have hyi := hy.i
  obtain ⟨w1, _, _, _⟩ := hy.cok 8 htl he
  have a1 := cStepC (y.cs 8) y.s hy.wds w1
  have hn := lf_next hy hL u htl he
  obtain ⟨c1, s1, hr⟩ : ∃ c1 s1, cStep (y.cs 8) y.s = (c1, s1) := ⟨_, _, rfl⟩
  unfold Lf.next at hn
  rw [hr] at a1 hn
  dsimp only at a1 hn
  refine RoundF.mk [(28, copR (y.cs 8) 384)] (famX (firstN y.cs (k + 1)) 8) (fam_run y.cs htl hm20) rfl (famX_below _ _ (by decide)) ?_
  (refine go ?_; try exact True.intro)
  rw [hml, decide_eq_true (show (y.i : Int) < picks.length by omega)]
  (refine go ?_; try exact True.intro)
  rw [decide_eq_true (show (0 : Int) < ((k + 1 : Nat) : Int) by omega)]
  (refine go ?_; try exact True.intro)
  refine idxB hpp ?_
  (refine go ?_; try exact True.intro)
  refine atB_eq _ htm htl ?_
  (refine go ?_; try exact True.intro)
  refine getB_lit _ (ends_get y.es htl) ?_
  (refine go ?_; try exact True.intro)
  rw [he]
  (refine go ?_; try exact True.intro)
  refine atB_eq 8 htm htl ?_
  (refine go ?_; try exact True.intro)
  rw [show (ptrsL (k + 1))[0 + 8]? = some [V.p 28 10 0 0] from by rw [Nat.zero_add]; exact ptrs_get htl]
  (refine go ?_; try exact True.intro)
  refine callL a1 [some 28, some 384, some 385, some 1, some 387, some 388] [] rfl ?_
  (refine go ?_; try exact True.intro)
  refine atB_eq 8 htm htl ?_
  (refine go ?_; try exact True.intro)
  refine getB_lit _ (ends_get y.es htl) ?_
  (refine go ?_; try exact True.intro)
  refine .mk [(1, 4480)] _ [(28, copR c1 384)] hn (by dsimp only; omega) (fam_ran y.cs c1 htl hm20) (famX_fix _ _ (by decide) rfl fun j _ _ => ren_low rfl j) ?_
  (refine go ?_; try exact True.intro)
  refine boPtrs2 ?_ rfl rfl hm20 (fun j _ => ren_low rfl j) (by decide)
  (refine go ?_; try exact True.intro)
  refine .mk _ rfl (congrArg (B.dat 1) (ends_set y.es htl _)) trivial ?_
  (refine go ?_; try exact True.intro)
  refine .mk _ rfl (copR_ren (a := 384) rfl c1).symm (copR_below (a := 384) (b := 2624) (by decide) c1) ?_
  (refine go ?_; try exact True.intro)
theorem lf_run9  {y : Lf} (hy : LfOk (k + 1) n picks.length S s0.m.log s0.m.viol y) (u : y.i < picks.length) {p : Int} (hpp : picks[y.i]? = some p) (pb1 : 0 ≤ p) (pb2 : p ≤ 255) (htm : p.tmod ((k + 1 : Nat) : Int) = ((9 : Nat) : Int)) (htl : 9 < k + 1) (he : y.es 9 = false) :
    (lf_def c l handles picks hpk hn s0 S hsz hp hw0 hns hm hm20 hL h0).2.1 y := by
  have hml : (picks.map u8D).length = picks.length := List.length_map ..
  have hmh : (handles.map intD).length = (k + 1 : Nat) := by rw [List.length_map, hm]
  have hlog0 := h0.lgl
  dsimp only at hlog0
  have hyi := hy.i
  obtain ⟨w1, _, _, _⟩ := hy.cok 9 htl he
  have a1 := cStepC (y.cs 9) y.s hy.wds w1
  have hn := lf_next hy hL u htl he
  obtain ⟨c1, s1, hr⟩ : ∃ c1 s1, cStep (y.cs 9) y.s = (c1, s1) := ⟨_, _, rfl⟩
  unfold Lf.next at hn
  rw [hr] at a1 hn
  dsimp only at a1 hn
  refine RoundF.mk [(29, copR (y.cs 9) 384)] (famX (firstN y.cs (k + 1)) 9) (fam_run y.cs htl hm20) rfl (famX_below _ _ (by decide)) ?_
  (refine go ?_; try exact True.intro)
  rw [hml, decide_eq_true (show (y.i : Int) < picks.length by omega)]
  (refine go ?_; try exact True.intro)
  rw [decide_eq_true (show (0 : Int) < ((k + 1 : Nat) : Int) by omega)]
  (refine go ?_; try exact True.intro)
  refine idxB hpp ?_
  (refine go ?_; try exact True.intro)
  refine atB_eq _ htm htl ?_
  (refine go ?_; try exact True.intro)
  refine getB_lit _ (ends_get y.es htl) ?_
  (refine go ?_; try exact True.intro)
  rw [he]
  (refine go ?_; try exact True.intro)
  refine atB_eq 9 htm htl ?_
  (refine go ?_; try exact True.intro)
  rw [show (ptrsL (k + 1))[0 + 9]? = some [V.p 29 10 0 0] from by rw [Nat.zero_add]; exact ptrs_get htl]
  (refine go ?_; try exact True.intro)
  refine callL a1 [some 29, some 384, some 385, some 1, some 387, some 388] [] rfl ?_
  (refine go ?_; try exact True.intro)
  refine atB_eq 9 htm htl ?_
  (refine go ?_; try exact True.intro)
  refine getB_lit _ (ends_get y.es htl) ?_
  (refine go ?_; try exact True.intro)
  refine .mk [(1, 4480)] _ [(29, copR c1 384)] hn (by dsimp only; omega) (fam_ran y.cs c1 htl hm20) (famX_fix _ _ (by decide) rfl fun j _ _ => ren_low rfl j) ?_
  (refine go ?_; try exact True.intro)
  refine boPtrs2 ?_ rfl rfl hm20 (fun j _ => ren_low rfl j) (by decide)
  (refine go ?_; try exact True.intro)
  refine .mk _ rfl (congrArg (B.dat 1) (ends_set y.es htl _)) trivial ?_
  (refine go ?_; try exact True.intro)
  refine .mk _ rfl (copR_ren (a := 384) rfl c1).symm (copR_below (a := 384) (b := 2624) (by decide) c1) ?_
  (refine go ?_; try exact True.intro)
theorem lf_run10  {y : Lf} (hy : LfOk (k + 1) n picks.length S s0.m.log s0.m.viol y) (u : y.i < picks.length) {p : Int} (hpp : picks[y.i]? = some p) (pb1 : 0 ≤ p) (pb2 : p ≤ 255) (htm : p.tmod ((k + 1 : Nat) : Int) = ((10 : Nat) : Int)) (htl : 10 < k + 1) (he : y.es 10 = false) :
    (lf_def c l handles picks hpk hn s0 S hsz hp hw0 hns hm hm20 hL h0).2.1 y := by
  have hml : (picks.map u8D).length = picks.length := List.length_map ..
  have hmh : (handles.map intD).length = (k + 1 : Nat) := by rw [List.length_map, hm]
  have hlog0 := h0.lgl
  dsimp only at hlog0
  have hyi := hy.i
  obtain ⟨w1, _, _, _⟩ := hy.cok 10 htl he
  have a1 := cStepC (y.cs 10) y.s hy.wds w1
  have hn := lf_next hy hL u htl he
  obtain ⟨c1, s1, hr⟩ : ∃ c1 s1, cStep (y.cs 10) y.s = (c1, s1) := ⟨_, _, rfl⟩
  unfold Lf.next at hn
  rw [hr] at a1 hn
  dsimp only at a1 hn
  refine RoundF.mk [(30, copR (y.cs 10) 384)] (famX (firstN y.cs (k + 1)) 10) (fam_run y.cs htl hm20) rfl (famX_below _ _ (by decide)) ?_
  (refine go ?_; try exact True.intro)
  rw [hml, decide_eq_true (show (y.i : Int) < picks.length by omega)]
  (refine go ?_; try exact True.intro)
  rw [decide_eq_true (show (0 : Int) < ((k + 1 : Nat) : Int) by omega)]
  (refine go ?_; try exact True.intro)
  refine idxB hpp ?_
  (refine go ?_; try exact True.intro)
  refine atB_eq _ htm htl ?_
  (refine go ?_; try exact True.intro)
  refine getB_lit _ (ends_get y.es htl) ?_
  (refine go ?_; try exact True.intro)
  rw [he]
  (refine go ?_; try exact True.intro)
  refine atB_eq 10 htm htl ?_
  (refine go ?_; try exact True.intro)
  rw [show (ptrsL (k + 1))[0 + 10]? = some [V.p 30 10 0 0] from by rw [Nat.zero_add]; exact ptrs_get htl]
  (refine go ?_; try exact True.intro)
  refine callL a1 [some 30, some 384, some 385, some 1, some 387, some 388] [] rfl ?_
  (refine go ?_; try exact True.intro)
  refine atB_eq 10 htm htl ?_
  (refine go ?_; try exact True.intro)
  refine getB_lit _ (ends_get y.es htl) ?_
  (refine go ?_; try exact True.intro)
  refine .mk [(1, 4480)] _ [(30, copR c1 384)] hn (by dsimp only; omega) (fam_ran y.cs c1 htl hm20) (famX_fix _ _ (by decide) rfl fun j _ _ => ren_low rfl j) ?_
  (refine go ?_; try exact True.intro)
  refine boPtrs2 ?_ rfl rfl hm20 (fun j _ => ren_low rfl j) (by decide)
  (refine go ?_; try exact True.intro)
  refine .mk _ rfl (congrArg (B.dat 1) (ends_set y.es htl _)) trivial ?_
  (refine go ?_; try exact True.intro)
  refine .mk _ rfl (copR_ren (a := 384) rfl c1).symm (copR_below (a := 384) (b := 2624) (by decide) c1) ?_
  (refine go ?_; try exact True.intro)
theorem lf_run11  {y : Lf} (hy : LfOk (k + 1) n picks.length S s0.m.log s0.m.viol y) (u : y.i < picks.length) {p : Int} (hpp : picks[y.i]? = some p) (pb1 : 0 ≤ p) (pb2 : p ≤ 255) (htm : p.tmod ((k + 1 : Nat) : Int) = ((11 : Nat) : Int)) (htl : 11 < k + 1) (he : y.es 11 = false) :
    (lf_def c l handles picks hpk hn s0 S hsz hp hw0 hns hm hm20 hL h0).2.1 y := by
  have hml : (picks.map u8D).length = picks.length := List.length_map ..
  have hmh : (handles.map intD).length = (k + 1 : Nat) := by rw [List.length_map, hm]
  have hlog0 := h0.lgl
  dsimp only at hlog0
  have hyi := hy.i
  obtain ⟨w1, _, _, _⟩ := hy.cok 11 htl he
  have a1 := cStepC (y.cs 11) y.s hy.wds w1
  have hn := lf_next hy hL u htl he
  obtain ⟨c1, s1, hr⟩ : ∃ c1 s1, cStep (y.cs 11) y.s = (c1, s1) := ⟨_, _, rfl⟩
  unfold Lf.next at hn
  rw [hr] at a1 hn
  dsimp only at a1 hn
  refine RoundF.mk [(31, copR (y.cs 11) 384)] (famX (firstN y.cs (k + 1)) 11) (fam_run y.cs htl hm20) rfl (famX_below _ _ (by decide)) ?_
  (refine go ?_; try exact True.intro)
  rw [hml, decide_eq_true (show (y.i : Int) < picks.length by omega)]
  (refine go ?_; try exact True.intro)
  rw [decide_eq_true (show (0 : Int) < ((k + 1 : Nat) : Int) by omega)]
  (refine go ?_; try exact True.intro)
  refine idxB hpp ?_
  (refine go ?_; try exact True.intro)
  refine atB_eq _ htm htl ?_
  (refine go ?_; try exact True.intro)
  refine getB_lit _ (ends_get y.es htl) ?_
  (refine go ?_; try exact True.intro)
  rw [he]
  (refine go ?_; try exact True.intro)
  refine atB_eq 11 htm htl ?_
  (refine go ?_; try exact True.intro)
  rw [show (ptrsL (k + 1))[0 + 11]? = some [V.p 31 10 0 0] from by rw [Nat.zero_add]; exact ptrs_get htl]
  (refine go ?_; try exact True.intro)
  refine callL a1 [some 31, some 384, some 385, some 1, some 387, some 388] [] rfl ?_
  (refine go ?_; try exact True.intro)
  refine atB_eq 11 htm htl ?_
  (refine go ?_; try exact True.intro)
  refine getB_lit _ (ends_get y.es htl) ?_
  (refine go ?_; try exact True.intro)
  refine .mk [(1, 4480)] _ [(31, copR c1 384)] hn (by dsimp only; omega) (fam_ran y.cs c1 htl hm20) (famX_fix _ _ (by decide) rfl fun j _ _ => ren_low rfl j) ?_
  (refine go ?_; try exact True.intro)
  refine boPtrs2 ?_ rfl rfl hm20 (fun j _ => ren_low rfl j) (by decide)
  (refine go ?_; try exact True.intro)
  refine .mk _ rfl (congrArg (B.dat 1) (ends_set y.es htl _)) trivial ?_
  (refine go ?_; try exact True.intro)
  refine .mk _ rfl (copR_ren (a := 384) rfl c1).symm (copR_below (a := 384) (b := 2624) (by decide) c1) ?_
  (refine go ?_; try exact True.intro)
theorem lf_run12  {y : Lf} (hy : LfOk (k + 1) n picks.length S s0.m.log s0.m.viol y) (u : y.i < picks.length) {p : Int} (hpp : picks[y.i]? = some p) (pb1 : 0 ≤ p) (pb2 : p ≤ 255) (htm : p.tmod ((k + 1 : Nat) : Int) = ((12 : Nat) : Int)) (htl : 12 < k + 1) (he : y.es 12 = false) :
    (lf_def c l handles picks hpk hn s0 S hsz hp hw0 hns hm hm20 hL h0).2.1 y := by
  have hml : (picks.map u8D).length = picks.length := List.length_map ..
  have hmh : (handles.map intD).length = (k + 1 : Nat) := by rw [List.length_map, hm]
  have hlog0 := h0.lgl
  dsimp only at hlog0
  have hyi := hy.i
  obtain ⟨w1, _, _, _⟩ := hy.cok 12 htl he
  have a1 := cStepC (y.cs 12) y.s hy.wds w1
  have hn := lf_next hy hL u htl he
  obtain ⟨c1, s1, hr⟩ : ∃ c1 s1, cStep (y.cs 12) y.s = (c1, s1) := ⟨_, _, rfl⟩
  unfold Lf.next at hn
  rw [hr] at a1 hn
  dsimp only at a1 hn
  refine RoundF.mk [(32, copR (y.cs 12) 384)] (famX (firstN y.cs (k + 1)) 12) (fam_run y.cs htl hm20) rfl (famX_below _ _ (by decide)) ?_
  (refine go ?_; try exact True.intro)
  rw [hml, decide_eq_true (show (y.i : Int) < picks.length by omega)]
  (refine go ?_; try exact True.intro)
  rw [decide_eq_true (show (0 : Int) < ((k + 1 : Nat) : Int) by omega)]
  (refine go ?_; try exact True.intro)
  refine idxB hpp ?_
  (refine go ?_; try exact True.intro)
  refine atB_eq _ htm htl ?_
  (refine go ?_; try exact True.intro)
  refine getB_lit _ (ends_get y.es htl) ?_
  (refine go ?_; try exact True.intro)
  rw [he]
  (refine go ?_; try exact True.intro)
  refine atB_eq 12 htm htl ?_
  (refine go ?_; try exact True.intro)
  rw [show (ptrsL (k + 1))[0 + 12]? = some [V.p 32 10 0 0] from by rw [Nat.zero_add]; exact ptrs_get htl]
  (refine go ?_; try exact True.intro)
  refine callL a1 [some 32, some 384, some 385, some 1, some 387, some 388] [] rfl ?_
  (refine go ?_; try exact True.intro)
  refine atB_eq 12 htm htl ?_
  (refine go ?_; try exact True.intro)
  refine getB_lit _ (ends_get y.es htl) ?_
  (refine go ?_; try exact True.intro)
  refine .mk [(1, 4480)] _ [(32, copR c1 384)] hn (by dsimp only; omega) (fam_ran y.cs c1 htl hm20) (famX_fix _ _ (by decide) rfl fun j _ _ => ren_low rfl j) ?_
  (refine go ?_; try exact True.intro)
  refine boPtrs2 ?_ rfl rfl hm20 (fun j _ => ren_low rfl j) (by decide)
  (refine go ?_; try exact True.intro)
  refine .mk _ rfl (congrArg (B.dat 1) (ends_set y.es htl _)) trivial ?_
  (refine go ?_; try exact True.intro)
  refine .mk _ rfl (copR_ren (a := 384) rfl c1).symm (copR_below (a := 384) (b := 2624) (by decide) c1) ?_
  (refine go ?_; try exact True.intro)
theorem lf_run13  {y : Lf} (hy : LfOk (k + 1) n picks.length S s0.m.log s0.m.viol y) (u : y.i < picks.length) {p : Int} (hpp : picks[y.i]? = some p) (pb1 : 0 ≤ p) (pb2 : p ≤ 255) (htm : p.tmod ((k + 1 : Nat) : Int) = ((13 : Nat) : Int)) (htl : 13 < k + 1) (he : y.es 13 = false) :
    (lf_def c l handles picks hpk hn s0 S hsz hp hw0 hns hm hm20 hL h0).2.1 y := by
  have hml : (picks.map u8D).length = picks.length := List.length_map ..
  have hmh : (handles.map intD).length = (k + 1 : Nat) := by rw [List.length_map, hm]
  have hlog0 := h0.lgl
  dsimp only at hlog0
  have hyi := hy.i
  obtain ⟨w1, _, _, _⟩ := hy.cok 13 htl he
  have a1 := cStepC (y.cs 13) y.s hy.wds w1
  have hn := lf_next hy hL u htl he
  obtain ⟨c1, s1, hr⟩ : ∃ c1 s1, cStep (y.cs 13) y.s = (c1, s1) := ⟨_, _, rfl⟩
  unfold Lf.next at hn
  rw [hr] at a1 hn
  dsimp only at a1 hn
  refine RoundF.mk [(33, copR (y.cs 13) 384)] (famX (firstN y.cs (k + 1)) 13) (fam_run y.cs htl hm20) rfl (famX_below _ _ (by decide)) ?_
  (refine go ?_; try exact True.intro)
  rw [hml, decide_eq_true (show (y.i : Int) < picks.length by omega)]
  (refine go ?_; try exact True.intro)
  rw [decide_eq_true (show (0 : Int) < ((k + 1 : Nat) : Int) by omega)]
  (refine go ?_; try exact True.intro)
  refine idxB hpp ?_
  (refine go ?_; try exact True.intro)
  refine atB_eq _ htm htl ?_
  (refine go ?_; try exact True.intro)
  refine getB_lit _ (ends_get y.es htl) ?_
  (refine go ?_; try exact True.intro)
  rw [he]
  (refine go ?_; try exact True.intro)
  refine atB_eq 13 htm htl ?_
  (refine go ?_; try exact True.intro)
  rw [show (ptrsL (k + 1))[0 + 13]? = some [V.p 33 10 0 0] from by rw [Nat.zero_add]; exact ptrs_get htl]
  (refine go ?_; try exact True.intro)
  refine callL a1 [some 33, some 384, some 385, some 1, some 387, some 388] [] rfl ?_
  (refine go ?_; try exact True.intro)
  refine atB_eq 13 htm htl ?_
  (refine go ?_; try exact True.intro)
  refine getB_lit _ (ends_get y.es htl) ?_
  (refine go ?_; try exact True.intro)
  refine .mk [(1, 4480)] _ [(33, copR c1 384)] hn (by dsimp only; omega) (fam_ran y.cs c1 htl hm20) (famX_fix _ _ (by decide) rfl fun j _ _ => ren_low rfl j) ?_
  (refine go ?_; try exact True.intro)
  refine boPtrs2 ?_ rfl rfl hm20 (fun j _ => ren_low rfl j) (by decide)
  (refine go ?_; try exact True.intro)
  refine .mk _ rfl (congrArg (B.dat 1) (ends_set y.es htl _)) trivial ?_
  (refine go ?_; try exact True.intro)
  refine .mk _ rfl (copR_ren (a := 384) rfl c1).symm (copR_below (a := 384) (b := 2624) (by decide) c1) ?_
  (refine go ?_; try exact True.intro)
theorem lf_run14  {y : Lf} (hy : LfOk (k + 1) n picks.length S s0.m.log s0.m.viol y) (u : y.i < picks.length) {p : Int} (hpp : picks[y.i]? = some p) (pb1 : 0 ≤ p) (pb2 : p ≤ 255) (htm : p.tmod ((k + 1 : Nat) : Int) = ((14 : Nat) : Int)) (htl : 14 < k + 1) (he : y.es 14 = false) :
    (lf_def c l handles picks hpk hn s0 S hsz hp hw0 hns hm hm20 hL h0).2.1 y := by
  have hml : (picks.map u8D).length = picks.length := List.length_map ..
  have hmh : (handles.map intD).length = (k + 1 : Nat) := by rw [List.length_map, hm]
  have hlog0 := h0.lgl
  dsimp only at hlog0
  have hyi := hy.i
  obtain ⟨w1, _, _, _⟩ := hy.cok 14 htl he
  have a1 := cStepC (y.cs 14) y.s hy.wds w1
  have hn := lf_next hy hL u htl he
  obtain ⟨c1, s1, hr⟩ : ∃ c1 s1, cStep (y.cs 14) y.s = (c1, s1) := ⟨_, _, rfl⟩
  unfold Lf.next at hn
  rw [hr] at a1 hn
  dsimp only at a1 hn
  refine RoundF.mk [(34, copR (y.cs 14) 384)] (famX (firstN y.cs (k + 1)) 14) (fam_run y.cs htl hm20) rfl (famX_below _ _ (by decide)) ?_
  (refine go ?_; try exact True.intro)
  rw [hml, decide_eq_true (show (y.i : Int) < picks.length by omega)]
  (refine go ?_; try exact True.intro)
  rw [decide_eq_true (show (0 : Int) < ((k + 1 : Nat) : Int) by omega)]
  (refine go ?_; try exact True.intro)
  refine idxB hpp ?_
  (refine go ?_; try exact True.intro)
  refine atB_eq _ htm htl ?_
  (refine go ?_; try exact True.intro)
  refine getB_lit _ (ends_get y.es htl) ?_
  (refine go ?_; try exact True.intro)
  rw [he]
  (refine go ?_; try exact True.intro)
  refine atB_eq 14 htm htl ?_
  (refine go ?_; try exact True.intro)
  rw [show (ptrsL (k + 1))[0 + 14]? = some [V.p 34 10 0 0] from by rw [Nat.zero_add]; exact ptrs_get htl]
  (refine go ?_; try exact True.intro)
  refine callL a1 [some 34, some 384, some 385, some 1, some 387, some 388] [] rfl ?_
  (refine go ?_; try exact True.intro)
  refine atB_eq 14 htm htl ?_
  (refine go ?_; try exact True.intro)
  refine getB_lit _ (ends_get y.es htl) ?_
  (refine go ?_; try exact True.intro)
  refine .mk [(1, 4480)] _ [(34, copR c1 384)] hn (by dsimp only; omega) (fam_ran y.cs c1 htl hm20) (famX_fix _ _ (by decide) rfl fun j _ _ => ren_low rfl j) ?_
  (refine go ?_; try exact True.intro)
  refine boPtrs2 ?_ rfl rfl hm20 (fun j _ => ren_low rfl j) (by decide)
  (refine go ?_; try exact True.intro)
  refine .mk _ rfl (congrArg (B.dat 1) (ends_set y.es htl _)) trivial ?_
  (refine go ?_; try exact True.intro)
  refine .mk _ rfl (copR_ren (a := 384) rfl c1).symm (copR_below (a := 384) (b := 2624) (by decide) c1) ?_
  (refine go ?_; try exact True.intro)
theorem lf_run15  {y : Lf} (hy : LfOk (k + 1) n picks.length S s0.m.log s0.m.viol y) (u : y.i < picks.length) {p : Int} (hpp : picks[y.i]? = some p) (pb1 : 0 ≤ p) (pb2 : p ≤ 255) (htm : p.tmod ((k + 1 : Nat) : Int) = ((15 : Nat) : Int)) (htl : 15 < k + 1) (he : y.es 15 = false) :
    (lf_def c l handles picks hpk hn s0 S hsz hp hw0 hns hm hm20 hL h0).2.1 y := by
  have hml : (picks.map u8D).length = picks.length := List.length_map ..
  have hmh : (handles.map intD).length = (k + 1 : Nat) := by rw [List.length_map, hm]
  have hlog0 := h0.lgl
  dsimp only at hlog0
  have hyi := hy.i
  obtain ⟨w1, _, _, _⟩ := hy.cok 15 htl he
  have a1 := cStepC (y.cs 15) y.s hy.wds w1
  have hn := lf_next hy hL u htl he
  obtain ⟨c1, s1, hr⟩ : ∃ c1 s1, cStep (y.cs 15) y.s = (c1, s1) := ⟨_, _, rfl⟩
  unfold Lf.next at hn
  rw [hr] at a1 hn
  dsimp only at a1 hn
  refine RoundF.mk [(35, copR (y.cs 15) 384)] (famX (firstN y.cs (k + 1)) 15) (fam_run y.cs htl hm20) rfl (famX_below _ _ (by decide)) ?_
  (refine go ?_; try exact True.intro)
  rw [hml, decide_eq_true (show (y.i : Int) < picks.length by omega)]
  (refine go ?_; try exact True.intro)
  rw [decide_eq_true (show (0 : Int) < ((k + 1 : Nat) : Int) by omega)]
  (refine go ?_; try exact True.intro)
  refine idxB hpp ?_
  (refine go ?_; try exact True.intro)
  refine atB_eq _ htm htl ?_
  (refine go ?_; try exact True.intro)
  refine getB_lit _ (ends_get y.es htl) ?_
  (refine go ?_; try exact True.intro)
  rw [he]
  (refine go ?_; try exact True.intro)
  refine atB_eq 15 htm htl ?_
  (refine go ?_; try exact True.intro)
  rw [show (ptrsL (k + 1))[0 + 15]? = some [V.p 35 10 0 0] from by rw [Nat.zero_add]; exact ptrs_get htl]
  (refine go ?_; try exact True.intro)
  refine callL a1 [some 35, some 384, some 385, some 1, some 387, some 388] [] rfl ?_
  (refine go ?_; try exact True.intro)
  refine atB_eq 15 htm htl ?_
  (refine go ?_; try exact True.intro)
  refine getB_lit _ (ends_get y.es htl) ?_
  (refine go ?_; try exact True.intro)
  refine .mk [(1, 4480)] _ [(35, copR c1 384)] hn (by dsimp only; omega) (fam_ran y.cs c1 htl hm20) (famX_fix _ _ (by decide) rfl fun j _ _ => ren_low rfl j) ?_
  (refine go ?_; try exact True.intro)
  refine boPtrs2 ?_ rfl rfl hm20 (fun j _ => ren_low rfl j) (by decide)
  (refine go ?_; try exact True.intro)
  refine .mk _ rfl (congrArg (B.dat 1) (ends_set y.es htl _)) trivial ?_
  (refine go ?_; try exact True.intro)
  refine .mk _ rfl (copR_ren (a := 384) rfl c1).symm (copR_below (a := 384) (b := 2624) (by decide) c1) ?_
  (refine go ?_; try exact True.intro)
theorem lf_run16  {y : Lf} (hy : LfOk (k + 1) n picks.length S s0.m.log s0.m.viol y) (u : y.i < picks.length) {p : Int} (hpp : picks[y.i]? = some p) (pb1 : 0 ≤ p) (pb2 : p ≤ 255) (htm : p.tmod ((k + 1 : Nat) : Int) = ((16 : Nat) : Int)) (htl : 16 < k + 1) (he : y.es 16 = false) :
    (lf_def c l handles picks hpk hn s0 S hsz hp hw0 hns hm hm20 hL h0).2.1 y := by
  have hml : (picks.map u8D).length = picks.length := List.length_map ..
  have hmh : (handles.map intD).length = (k + 1 : Nat) := by rw [List.length_map, hm]
  have hlog0 := h0.lgl
  dsimp only at hlog0
  have hyi := hy.i
  obtain ⟨w1, _, _, _⟩ := hy.cok 16 htl he
  have a1 := cStepC (y.cs 16) y.s hy.wds w1
  have hn := lf_next hy hL u htl he
  obtain ⟨c1, s1, hr⟩ : ∃ c1 s1, cStep (y.cs 16) y.s = (c1, s1) := ⟨_, _, rfl⟩
  unfold Lf.next at hn
  rw [hr] at a1 hn
  dsimp only at a1 hn
  refine RoundF.mk [(36, copR (y.cs 16) 384)] (famX (firstN y.cs (k + 1)) 16) (fam_run y.cs htl hm20) rfl (famX_below _ _ (by decide)) ?_
  (refine go ?_; try exact True.intro)
  rw [hml, decide_eq_true (show (y.i : Int) < picks.length by omega)]
  (refine go ?_; try exact True.intro)
  rw [decide_eq_true (show (0 : Int) < ((k + 1 : Nat) : Int) by omega)]
  (refine go ?_; try exact True.intro)
  refine idxB hpp ?_
  (refine go ?_; try exact True.intro)
  refine atB_eq _ htm htl ?_
  (refine go ?_; try exact True.intro)
  refine getB_lit _ (ends_get y.es htl) ?_
  (refine go ?_; try exact True.intro)
  rw [he]
  (refine go ?_; try exact True.intro)
  refine atB_eq 16 htm htl ?_
  (refine go ?_; try exact True.intro)
  rw [show (ptrsL (k + 1))[0 + 16]? = some [V.p 36 10 0 0] from by rw [Nat.zero_add]; exact ptrs_get htl]
  (refine go ?_; try exact True.intro)
  refine callL a1 [some 36, some 384, some 385, some 1, some 387, some 388] [] rfl ?_
  (refine go ?_; try exact True.intro)
  refine atB_eq 16 htm htl ?_
  (refine go ?_; try exact True.intro)
  refine getB_lit _ (ends_get y.es htl) ?_
  (refine go ?_; try exact True.intro)
  refine .mk [(1, 4480)] _ [(36, copR c1 384)] hn (by dsimp only; omega) (fam_ran y.cs c1 htl hm20) (famX_fix _ _ (by decide) rfl fun j _ _ => ren_low rfl j) ?_
  (refine go ?_; try exact True.intro)
  refine boPtrs2 ?_ rfl rfl hm20 (fun j _ => ren_low rfl j) (by decide)
  (refine go ?_; try exact True.intro)
  refine .mk _ rfl (congrArg (B.dat 1) (ends_set y.es htl _)) trivial ?_
  (refine go ?_; try exact True.intro)
  refine .mk _ rfl (copR_ren (a := 384) rfl c1).symm (copR_below (a := 384) (b := 2624) (by decide) c1) ?_
  (refine go ?_; try exact True.intro)
theorem lf_run17  {y : Lf} (hy : LfOk (k + 1) n picks.length S s0.m.log s0.m.viol y) (u : y.i < picks.length) {p : Int} (hpp : picks[y.i]? = some p) (pb1 : 0 ≤ p) (pb2 : p ≤ 255) (htm : p.tmod ((k + 1 : Nat) : Int) = ((17 : Nat) : Int)) (htl : 17 < k + 1) (he : y.es 17 = false) :
    (lf_def c l handles picks hpk hn s0 S hsz hp hw0 hns hm hm20 hL h0).2.1 y := by
  have hml : (picks.map u8D).length = picks.length := List.length_map ..
  have hmh : (handles.map intD).length = (k + 1 : Nat) := by rw [List.length_map, hm]
  have hlog0 := h0.lgl
  dsimp only at hlog0
  have hyi := hy.i
  obtain ⟨w1, _, _, _⟩ := hy.cok 17 htl he
  have a1 := cStepC (y.cs 17) y.s hy.wds w1
  have hn := lf_next hy hL u htl he
  obtain ⟨c1, s1, hr⟩ : ∃ c1 s1, cStep (y.cs 17) y.s = (c1, s1) := ⟨_, _, rfl⟩
  unfold Lf.next at hn
  rw [hr] at a1 hn
  dsimp only at a1 hn
  refine RoundF.mk [(37, copR (y.cs 17) 384)] (famX (firstN y.cs (k + 1)) 17) (fam_run y.cs htl hm20) rfl (famX_below _ _ (by decide)) ?_
  (refine go ?_; try exact True.intro)
  rw [hml, decide_eq_true (show (y.i : Int) < picks.length by omega)]
  (refine go ?_; try exact True.intro)
  rw [decide_eq_true (show (0 : Int) < ((k + 1 : Nat) : Int) by omega)]
  (refine go ?_; try exact True.intro)
  refine idxB hpp ?_
  (refine go ?_; try exact True.intro)
  refine atB_eq _ htm htl ?_
  (refine go ?_; try exact True.intro)
  refine getB_lit _ (ends_get y.es htl) ?_
  (refine go ?_; try exact True.intro)
  rw [he]
  (refine go ?_; try exact True.intro)
  refine atB_eq 17 htm htl ?_
  (refine go ?_; try exact True.intro)
  rw [show (ptrsL (k + 1))[0 + 17]? = some [V.p 37 10 0 0] from by rw [Nat.zero_add]; exact ptrs_get htl]
  (refine go ?_; try exact True.intro)
  refine callL a1 [some 37, some 384, some 385, some 1, some 387, some 388] [] rfl ?_
  (refine go ?_; try exact True.intro)
  refine atB_eq 17 htm htl ?_
  (refine go ?_; try exact True.intro)
  refine getB_lit _ (ends_get y.es htl) ?_
  (refine go ?_; try exact True.intro)
  refine .mk [(1, 4480)] _ [(37, copR c1 384)] hn (by dsimp only; omega) (fam_ran y.cs c1 htl hm20) (famX_fix _ _ (by decide) rfl fun j _ _ => ren_low rfl j) ?_
  (refine go ?_; try exact True.intro)
  refine boPtrs2 ?_ rfl rfl hm20 (fun j _ => ren_low rfl j) (by decide)
  (refine go ?_; try exact True.intro)
  refine .mk _ rfl (congrArg (B.dat 1) (ends_set y.es htl _)) trivial ?_
  (refine go ?_; try exact True.intro)
  refine .mk _ rfl (copR_ren (a := 384) rfl c1).symm (copR_below (a := 384) (b := 2624) (by decide) c1) ?_
  (refine go ?_; try exact True.intro)
theorem lf_run18  {y : Lf} (hy : LfOk (k + 1) n picks.length S s0.m.log s0.m.viol y) (u : y.i < picks.length) {p : Int} (hpp : picks[y.i]? = some p) (pb1 : 0 ≤ p) (pb2 : p ≤ 255) (htm : p.tmod ((k + 1 : Nat) : Int) = ((18 : Nat) : Int)) (htl : 18 < k + 1) (he : y.es 18 = false) :
    (lf_def c l handles picks hpk hn s0 S hsz hp hw0 hns hm hm20 hL h0).2.1 y := by
  have hml : (picks.map u8D).length = picks.length := List.length_map ..
  have hmh : (handles.map intD).length = (k + 1 : Nat) := by rw [List.length_map, hm]
  have hlog0 := h0.lgl
  dsimp only at hlog0
  have hyi := hy.i
  obtain ⟨w1, _, _, _⟩ := hy.cok 18 htl he
  have a1 := cStepC (y.cs 18) y.s hy.wds w1
  have hn := lf_next hy hL u htl he
  obtain ⟨c1, s1, hr⟩ : ∃ c1 s1, cStep (y.cs 18) y.s = (c1, s1) := ⟨_, _, rfl⟩
  unfold Lf.next at hn
  rw [hr] at a1 hn
  dsimp only at a1 hn
  refine RoundF.mk [(38, copR (y.cs 18) 384)] (famX (firstN y.cs (k + 1)) 18) (fam_run y.cs htl hm20) rfl (famX_below _ _ (by decide)) ?_
  (refine go ?_; try exact True.intro)
  rw [hml, decide_eq_true (show (y.i : Int) < picks.length by omega)]
  (refine go ?_; try exact True.intro)
  rw [decide_eq_true (show (0 : Int) < ((k + 1 : Nat) : Int) by omega)]
  (refine go ?_; try exact True.intro)
  refine idxB hpp ?_
  (refine go ?_; try exact True.intro)
  refine atB_eq _ htm htl ?_
  (refine go ?_; try exact True.intro)
  refine getB_lit _ (ends_get y.es htl) ?_
  (refine go ?_; try exact True.intro)
  rw [he]
  (refine go ?_; try exact True.intro)
  refine atB_eq 18 htm htl ?_
  (refine go ?_; try exact True.intro)
  rw [show (ptrsL (k + 1))[0 + 18]? = some [V.p 38 10 0 0] from by rw [Nat.zero_add]; exact ptrs_get htl]
  (refine go ?_; try exact True.intro)
  refine callL a1 [some 38, some 384, some 385, some 1, some 387, some 388] [] rfl ?_
  (refine go ?_; try exact True.intro)
  refine atB_eq 18 htm htl ?_
  (refine go ?_; try exact True.intro)
  refine getB_lit _ (ends_get y.es htl) ?_
  (refine go ?_; try exact True.intro)
  refine .mk [(1, 4480)] _ [(38, copR c1 384)] hn (by dsimp only; omega) (fam_ran y.cs c1 htl hm20) (famX_fix _ _ (by decide) rfl fun j _ _ => ren_low rfl j) ?_
  (refine go ?_; try exact True.intro)
  refine boPtrs2 ?_ rfl rfl hm20 (fun j _ => ren_low rfl j) (by decide)
  (refine go ?_; try exact True.intro)
  refine .mk _ rfl (congrArg (B.dat 1) (ends_set y.es htl _)) trivial ?_
  (refine go ?_; try exact True.intro)
  refine .mk _ rfl (copR_ren (a := 384) rfl c1).symm (copR_below (a := 384) (b := 2624) (by decide) c1) ?_
  (refine go ?_; try exact True.intro)
theorem lf_run19  {y : Lf} (hy : LfOk (k + 1) n picks.length S s0.m.log s0.m.viol y) (u : y.i < picks.length) {p : Int} (hpp : picks[y.i]? = some p) (pb1 : 0 ≤ p) (pb2 : p ≤ 255) (htm : p.tmod ((k + 1 : Nat) : Int) = ((19 : Nat) : Int)) (htl : 19 < k + 1) (he : y.es 19 = false) :
    (lf_def c l handles picks hpk hn s0 S hsz hp hw0 hns hm hm20 hL h0).2.1 y := by
  have hml : (picks.map u8D).length = picks.length := List.length_map ..
  have hmh : (handles.map intD).length = (k + 1 : Nat) := by rw [List.length_map, hm]
  have hlog0 := h0.lgl
  dsimp only at hlog0
  have hyi := hy.i
  obtain ⟨w1, _, _, _⟩ := hy.cok 19 htl he
  have a1 := cStepC (y.cs 19) y.s hy.wds w1
  have hn := lf_next hy hL u htl he
  obtain ⟨c1, s1, hr⟩ : ∃ c1 s1, cStep (y.cs 19) y.s = (c1, s1) := ⟨_, _, rfl⟩
  unfold Lf.next at hn
  rw [hr] at a1 hn
  dsimp only at a1 hn
  refine RoundF.mk [(39, copR (y.cs 19) 384)] (famX (firstN y.cs (k + 1)) 19) (fam_run y.cs htl hm20) rfl (famX_below _ _ (by decide)) ?_
  (refine go ?_; try exact True.intro)
  rw [hml, decide_eq_true (show (y.i : Int) < picks.length by omega)]
  (refine go ?_; try exact True.intro)
  rw [decide_eq_true (show (0 : Int) < ((k + 1 : Nat) : Int) by omega)]
  (refine go ?_; try exact True.intro)
  refine idxB hpp ?_
  (refine go ?_; try exact True.intro)
  refine atB_eq _ htm htl ?_
  (refine go ?_; try exact True.intro)
  refine getB_lit _ (ends_get y.es htl) ?_
  (refine go ?_; try exact True.intro)
  rw [he]
  (refine go ?_; try exact True.intro)
  refine atB_eq 19 htm htl ?_
  (refine go ?_; try exact True.intro)
  rw [show (ptrsL (k + 1))[0 + 19]? = some [V.p 39 10 0 0] from by rw [Nat.zero_add]; exact ptrs_get htl]
  (refine go ?_; try exact True.intro)
  refine callL a1 [some 39, some 384, some 385, some 1, some 387, some 388] [] rfl ?_
  (refine go ?_; try exact True.intro)
  refine atB_eq 19 htm htl ?_
  (refine go ?_; try exact True.intro)
  refine getB_lit _ (ends_get y.es htl) ?_
  (refine go ?_; try exact True.intro)
  refine .mk [(1, 4480)] _ [(39, copR c1 384)] hn (by dsimp only; omega) (fam_ran y.cs c1 htl hm20) (famX_fix _ _ (by decide) rfl fun j _ _ => ren_low rfl j) ?_
  (refine go ?_; try exact True.intro)
  refine boPtrs2 ?_ rfl rfl hm20 (fun j _ => ren_low rfl j) (by decide)
  (refine go ?_; try exact True.intro)
  refine .mk _ rfl (congrArg (B.dat 1) (ends_set y.es htl _)) trivial ?_
  (refine go ?_; try exact True.intro)
  refine .mk _ rfl (copR_ren (a := 384) rfl c1).symm (copR_below (a := 384) (b := 2624) (by decide) c1) ?_
  (refine go ?_; try exact True.intro)
end
set_option maxHeartbeats 16000000 in
theorem lf_zero (c : Int) (l : List OpS) (handles picks : List Int) (hpk : ∀ y ∈ picks, 0 ≤ y ∧ y ≤ 255) {n : Nat} (hn : 1 ≤ n ∧ n ≤ 12) (s0 : Sto) (S : List Item) (hsz : PSpec Tryz.prog 15 [.c (.int .u8 c)] (V.int n))
    (hp : LSpec Tryz.prog 14 [V.int n, opsSV l] [] 0 (.tup [.p 0 10 0 0, .p 5 10 0 0]) (stoB s0 2 ++ rstoAt s0 5 7) 10) (hw0 : Wds s0 967) (hns : s0.slots.length = n)
    (hm : handles.length = (0 : Nat)) (hm20 : (0 : Nat) ≤ 20) (hL : picks.length ≤ 200) (h0 : LfOk (0 : Nat) n picks.length S s0.m.log s0.m.viol ⟨0, s0, c0L s0 handles, fun _ => false⟩) :
    PSpec Tryz.prog 6 [.c (.int .u8 c), opsSV l, intsV handles, u8sV picks] (V.bool true) := by
  have hml : (picks.map u8D).length = picks.length := List.length_map ..
  have hmh : (handles.map intD).length = (0 : Nat) := by rw [List.length_map, hm]
  have hlog0 := h0.lgl
  dsimp only at hlog0
  refine pspec tab_ok mix Tryz.func6 (by kernel_rfl) rfl rfl ?_
  (refine go ?_; try exact True.intro)
  refine callB head13C ?_
  (refine go ?_; try exact True.intro)
  refine callB hsz ?_
  (refine go ?_; try exact True.intro)
  refine callL hp [] [] rfl ?_
  (refine go ?_; try exact True.intro)
  rw [hmh, decide_eq_false (show ¬ (20 : Int) < (0 : Nat) by omega)]
  (refine go ?_; try exact True.intro)
  rw [hml, decide_eq_false (show ¬ (200 : Int) < picks.length by omega)]
  (refine go ?_; try exact True.intro)
  refine callL (memoryC s0) [some 384, some 385, some 386, some 387, some 388] [] rfl ?_
  (refine go ?_; try exact True.intro)
  refine callL (logC s0.m hw0.fits.mem) [some 385, some 386, some 387, some 388] [] rfl ?_
  (refine go ?_; try exact True.intro)
  refine callL (memoryC s0) [some 384, some 385, some 386, some 387, some 388] [] rfl ?_
  (refine go ?_; try exact True.intro)
  refine callL (violC s0.m) [some 385, some 386, some 387, some 388] [] rfl ?_
  (refine go ?_; try exact True.intro)
  refine loopF tab_ok mix [7, 20, 21, 22, 23, 24, 25, 26, 27, 28, 29, 30, 31, 32, 33, 34, 35, 36, 37, 38, 39] [2, 3, 9, 10, 12, 13] [384, 385, 386, 387, 388] (fun i : Nat => [(14, aV i), (15, .ac 8 1 i), (16, V.int i)]) (fun i => aB i ++ [(8, .dat 1 (endsD (fun _ => false) i))]) (fun i => famL (firstN (c0L s0 handles) i)) (fun i => i ≤ (0 : Nat)) (fun i => (0 : Nat) - i) [] 0 rfl (Nat.zero_le _) ?_ ?_
  · (refine go ?_; try exact True.intro)
    iterate 20 (refine BO.no rfl True.intro ?_; (refine go ?_; try exact True.intro))
  intro i hi
  obtain rfl : i = 0 := by omega
  refine .mk [] (famL (firstN (c0L s0 handles) 0)) rfl rfl (famL_below _ (by decide)) ?_
  (refine go ?_; try exact True.intro)
  rw [hmh, decide_eq_false (show ¬ ((0 : Nat) : Int) < ((0 : Nat) : Int) by omega)]
  (refine go ?_; try exact True.intro)
  refine loopB tab_ok mix [2, 3, 9, 10, 12, 13, 14] [384, 385, 386, 387, 388] (fun _ : Unit => [(17, V.int ((0 : Nat) : Int))]) (fun _ => []) (fun _ => True) (fun _ => 0) [] () rfl trivial (by (refine go ?_; try exact True.intro)) ?_
  intro _ _
  (refine go ?_; try exact True.intro)
  rw [hml]
  by_cases v0 : 0 < picks.length
  · rw [decide_eq_true (show ((0 : Nat) : Int) < (picks.length : Int) by omega)]
    (refine go ?_; try exact True.intro)
    refine callL (memoryC s0) [some 384, some 385, some 386, some 387, some 388] [] rfl ?_
    (refine go ?_; try exact True.intro)
    refine callL (logC s0.m hw0.fits.mem) [some 385, some 386, some 387, some 388] [] rfl ?_
    (refine go ?_; try exact True.intro)
    rw [hmh]
    refine makeB tab_ok 0 [.c (.bool false)] _ rfl (.c _ rfl .nil) rfl rfl (by omega) rfl ?_
    (refine go ?_; try exact True.intro)
    refine loopB tab_ok mix [2, 9, 10, 13, 19] [384, 385, 386, 387, 388, 3328] (fun _ : Unit => [(21, V.int (s0.m.log.length : Int))]) (fun _ => []) (fun _ => True) (fun _ => 0) [] () rfl trivial (by (refine go ?_; try exact True.intro)) ?_
    intro _ _
    (refine go ?_; try exact True.intro)
    rw [decide_eq_false (show ¬ ((s0.m.log.length : Nat) : Int) < (s0.m.log.length : Int) by omega)]
    (refine go ?_; try exact True.intro)
    refine callL (memoryC s0) [some 384, some 385, some 386, some 387, some 388] [] rfl ?_
    (refine go ?_; try exact True.intro)
    refine callL (violC s0.m) [some 385, some 386, some 387, some 388] [] rfl ?_
    (refine go ?_; try exact True.intro)
    rw [decide_eq_true (show s0.m.viol = s0.m.viol from rfl)]
    exact .same rfl
  · rw [decide_eq_false (show ¬ ((0 : Nat) : Int) < (picks.length : Int) by omega)]
    (refine go ?_; try exact True.intro)
    refine callL (memoryC s0) [some 384, some 385, some 386, some 387, some 388] [] rfl ?_
    (refine go ?_; try exact True.intro)
    refine callL (logC s0.m hw0.fits.mem) [some 385, some 386, some 387, some 388] [] rfl ?_
    (refine go ?_; try exact True.intro)
    rw [hmh]
    refine makeB tab_ok 0 [.c (.bool false)] _ rfl (.c _ rfl .nil) rfl rfl (by omega) rfl ?_
    (refine go ?_; try exact True.intro)
    refine loopB tab_ok mix [2, 9, 10, 13, 19] [384, 385, 386, 387, 388, 3328] (fun _ : Unit => [(21, V.int (s0.m.log.length : Int))]) (fun _ => []) (fun _ => True) (fun _ => 0) [] () rfl trivial (by (refine go ?_; try exact True.intro)) ?_
    intro _ _
    (refine go ?_; try exact True.intro)
    rw [decide_eq_false (show ¬ ((s0.m.log.length : Nat) : Int) < (s0.m.log.length : Int) by omega)]
    (refine go ?_; try exact True.intro)
    refine callL (memoryC s0) [some 384, some 385, some 386, some 387, some 388] [] rfl ?_
    (refine go ?_; try exact True.intro)
    refine callL (violC s0.m) [some 385, some 386, some 387, some 388] [] rfl ?_
    (refine go ?_; try exact True.intro)
    rw [decide_eq_true (show s0.m.viol = s0.m.viol from rfl)]
    exact .same rfl
theorem lf_walk (c : Int) (l : List OpS) (handles picks : List Int) (hpk : ∀ y ∈ picks, 0 ≤ y ∧ y ≤ 255) {n : Nat} (hn : 1 ≤ n ∧ n ≤ 12) (s0 : Sto) (S : List Item) (hsz : PSpec Tryz.prog 15 [.c (.int .u8 c)] (V.int n))
    (hp : LSpec Tryz.prog 14 [V.int n, opsSV l] [] 0 (.tup [.p 0 10 0 0, .p 5 10 0 0]) (stoB s0 2 ++ rstoAt s0 5 7) 10) (hw0 : Wds s0 967) (hns : s0.slots.length = n)
    {m : Nat} (hm : handles.length = m) (hm20 : m ≤ 20) (hL : picks.length ≤ 200) (h0 : LfOk m n picks.length S s0.m.log s0.m.viol ⟨0, s0, c0L s0 handles, fun _ => false⟩) :
    PSpec Tryz.prog 6 [.c (.int .u8 c), opsSV l, intsV handles, u8sV picks] (V.bool true) := by
  rcases m with _ | k
  · exact lf_zero c l handles picks hpk hn s0 S hsz hp hw0 hns hm hm20 hL h0
  refine (lf_def c l handles picks hpk hn s0 S hsz hp hw0 hns hm hm20 hL h0).2.2.down ?_ ?_
  · intro i u
    rcases (show i = 0 ∨ i = 1 ∨ i = 2 ∨ i = 3 ∨ i = 4 ∨ i = 5 ∨ i = 6 ∨ i = 7 ∨ i = 8 ∨ i = 9 ∨ i = 10 ∨ i = 11 ∨ i = 12 ∨ i = 13 ∨ i = 14 ∨ i = 15 ∨ i = 16 ∨ i = 17 ∨ i = 18 ∨ i = 19 by omega) with rfl | rfl | rfl | rfl | rfl | rfl | rfl | rfl | rfl | rfl | rfl | rfl | rfl | rfl | rfl | rfl | rfl | rfl | rfl | rfl
    · exact lf_new0 c l handles picks hpk hn s0 S hsz hp hw0 hns hm hm20 hL h0 u
    · exact lf_new1 c l handles picks hpk hn s0 S hsz hp hw0 hns hm hm20 hL h0 u
    · exact lf_new2 c l handles picks hpk hn s0 S hsz hp hw0 hns hm hm20 hL h0 u
    · exact lf_new3 c l handles picks hpk hn s0 S hsz hp hw0 hns hm hm20 hL h0 u
    · exact lf_new4 c l handles picks hpk hn s0 S hsz hp hw0 hns hm hm20 hL h0 u
    · exact lf_new5 c l handles picks hpk hn s0 S hsz hp hw0 hns hm hm20 hL h0 u
    · exact lf_new6 c l handles picks hpk hn s0 S hsz hp hw0 hns hm hm20 hL h0 u
    · exact lf_new7 c l handles picks hpk hn s0 S hsz hp hw0 hns hm hm20 hL h0 u
    · exact lf_new8 c l handles picks hpk hn s0 S hsz hp hw0 hns hm hm20 hL h0 u
    · exact lf_new9 c l handles picks hpk hn s0 S hsz hp hw0 hns hm hm20 hL h0 u
    · exact lf_new10 c l handles picks hpk hn s0 S hsz hp hw0 hns hm hm20 hL h0 u
    · exact lf_new11 c l handles picks hpk hn s0 S hsz hp hw0 hns hm hm20 hL h0 u
    · exact lf_new12 c l handles picks hpk hn s0 S hsz hp hw0 hns hm hm20 hL h0 u
    · exact lf_new13 c l handles picks hpk hn s0 S hsz hp hw0 hns hm hm20 hL h0 u
    · exact lf_new14 c l handles picks hpk hn s0 S hsz hp hw0 hns hm hm20 hL h0 u
    · exact lf_new15 c l handles picks hpk hn s0 S hsz hp hw0 hns hm hm20 hL h0 u
    · exact lf_new16 c l handles picks hpk hn s0 S hsz hp hw0 hns hm hm20 hL h0 u
    · exact lf_new17 c l handles picks hpk hn s0 S hsz hp hw0 hns hm hm20 hL h0 u
    · exact lf_new18 c l handles picks hpk hn s0 S hsz hp hw0 hns hm hm20 hL h0 u
    · exact lf_new19 c l handles picks hpk hn s0 S hsz hp hw0 hns hm hm20 hL h0 u
  · intro y hy
    by_cases u : y.i < picks.length
    case neg => exact lf_end c l handles picks hpk hn s0 S hsz hp hw0 hns hm hm20 hL h0 hy u
    obtain ⟨p, hpp⟩ := get_lt u
    obtain ⟨pb1, pb2⟩ := hpk p (List.mem_of_getElem? hpp)
    have htm := tmod_nat pb1 (k + 1)
    have htl : p.toNat % (k + 1) < k + 1 := Nat.mod_lt _ (Nat.succ_pos k)
    generalize p.toNat % (k + 1) = t at *
    rcases Bool.eq_false_or_eq_true (y.es t) with he | he
    · exact lf_ended c l handles picks hpk hn s0 S hsz hp hw0 hns hm hm20 hL h0 hy u hpp pb1 pb2 htm htl he
    rcases (show t = 0 ∨ t = 1 ∨ t = 2 ∨ t = 3 ∨ t = 4 ∨ t = 5 ∨ t = 6 ∨ t = 7 ∨ t = 8 ∨ t = 9 ∨ t = 10 ∨ t = 11 ∨ t = 12 ∨ t = 13 ∨ t = 14 ∨ t = 15 ∨ t = 16 ∨ t = 17 ∨ t = 18 ∨ t = 19 by omega) with rfl | rfl | rfl | rfl | rfl | rfl | rfl | rfl | rfl | rfl | rfl | rfl | rfl | rfl | rfl | rfl | rfl | rfl | rfl | rfl
    · exact lf_run0 c l handles picks hpk hn s0 S hsz hp hw0 hns hm hm20 hL h0 hy u hpp pb1 pb2 htm htl he
    · exact lf_run1 c l handles picks hpk hn s0 S hsz hp hw0 hns hm hm20 hL h0 hy u hpp pb1 pb2 htm htl he
    · exact lf_run2 c l handles picks hpk hn s0 S hsz hp hw0 hns hm hm20 hL h0 hy u hpp pb1 pb2 htm htl he
    · exact lf_run3 c l handles picks hpk hn s0 S hsz hp hw0 hns hm hm20 hL h0 hy u hpp pb1 pb2 htm htl he
    · exact lf_run4 c l handles picks hpk hn s0 S hsz hp hw0 hns hm hm20 hL h0 hy u hpp pb1 pb2 htm htl he
    · exact lf_run5 c l handles picks hpk hn s0 S hsz hp hw0 hns hm hm20 hL h0 hy u hpp pb1 pb2 htm htl he
    · exact lf_run6 c l handles picks hpk hn s0 S hsz hp hw0 hns hm hm20 hL h0 hy u hpp pb1 pb2 htm htl he
    · exact lf_run7 c l handles picks hpk hn s0 S hsz hp hw0 hns hm hm20 hL h0 hy u hpp pb1 pb2 htm htl he
    · exact lf_run8 c l handles picks hpk hn s0 S hsz hp hw0 hns hm hm20 hL h0 hy u hpp pb1 pb2 htm htl he
    · exact lf_run9 c l handles picks hpk hn s0 S hsz hp hw0 hns hm hm20 hL h0 hy u hpp pb1 pb2 htm htl he
    · exact lf_run10 c l handles picks hpk hn s0 S hsz hp hw0 hns hm hm20 hL h0 hy u hpp pb1 pb2 htm htl he
    · exact lf_run11 c l handles picks hpk hn s0 S hsz hp hw0 hns hm hm20 hL h0 hy u hpp pb1 pb2 htm htl he
    · exact lf_run12 c l handles picks hpk hn s0 S hsz hp hw0 hns hm hm20 hL h0 hy u hpp pb1 pb2 htm htl he
    · exact lf_run13 c l handles picks hpk hn s0 S hsz hp hw0 hns hm hm20 hL h0 hy u hpp pb1 pb2 htm htl he
    · exact lf_run14 c l handles picks hpk hn s0 S hsz hp hw0 hns hm hm20 hL h0 hy u hpp pb1 pb2 htm htl he
    · exact lf_run15 c l handles picks hpk hn s0 S hsz hp hw0 hns hm hm20 hL h0 hy u hpp pb1 pb2 htm htl he
    · exact lf_run16 c l handles picks hpk hn s0 S hsz hp hw0 hns hm hm20 hL h0 hy u hpp pb1 pb2 htm htl he
    · exact lf_run17 c l handles picks hpk hn s0 S hsz hp hw0 hns hm hm20 hL h0 hy u hpp pb1 pb2 htm htl he
    · exact lf_run18 c l handles picks hpk hn s0 S hsz hp hw0 hns hm hm20 hL h0 hy u hpp pb1 pb2 htm htl he
    · exact lf_run19 c l handles picks hpk hn s0 S hsz hp hw0 hns hm hm20 hL h0 hy u hpp pb1 pb2 htm htl he
end Go.Proofs.YtcffiehcdadimaaGreat.Abs
