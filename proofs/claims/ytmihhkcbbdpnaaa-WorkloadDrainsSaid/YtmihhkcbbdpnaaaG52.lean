/- Laws of workloads as contracts: drained to the end. -/
import Derived.Test.YtmihhkcbbdpnaaaK2
namespace Go.Proofs.Ytmihhkcbbdpnaaa.Abs
open Go.Proofs
set_option maxRecDepth 10000
set_option linter.unusedSimpArgs false
set_option linter.unusedVariables false

def metR (T : List Item) (j : Nat) : List D := [.c (.bool (T.any fun x => decide (x.seq = (j : Int))))]
def metD (T : List Item) (n : Nat) : List (List D) := (List.range n).map (metR T)
theorem metD_get (T : List Item) {n j : Nat} (h : j < n) : (metD T n)[j]? = some (metR T j) := by
  unfold metD
  rw [List.getElem?_map, List.getElem?_range h]; rfl
theorem metR_no {T : List Item} {j : Nat} (h : ∀ x ∈ T, x.seq ≠ (j : Int)) : metR T j = [.c (.bool false)] := by
  unfold metR
  rw [List.any_eq_false.2 fun x hx => by simpa using h x hx]
theorem metD_set (T : List Item) {n j : Nat} {x : Item} (h : j < n) (hx : x.seq = j) : (metD T n).set j [.c (.bool true)] = metD (T ++ [x]) n := by
  apply List.ext_getElem?
  intro k
  rw [List.getElem?_set]
  by_cases hk : k < n
  · rw [metD_get _ hk, metD_get _ hk]
    by_cases e : j = k
    · subst e
      rw [if_pos rfl, if_pos (by unfold metD; simpa using h)]
      unfold metR
      rw [List.any_append]; simp [hx]
    · rw [if_neg e]
      unfold metR
      rw [List.any_append]
      have : decide (x.seq = (k : Int)) = false := by rw [hx]; simp; omega
      simp [this]
  · have hz : ∀ T : List Item, (metD T n)[k]? = none := fun T => List.getElem?_eq_none (by unfold metD; simp; omega)
    rw [hz, hz]
    have : j ≠ k := by omega
    rw [if_neg this]
theorem metD_zero (n : Nat) : metD [] n = List.replicate n [.c (.bool false)] := by
  unfold metD metR
  apply List.ext_getElem?
  intro k
  rw [List.getElem?_map, List.getElem?_replicate]
  by_cases hk : k < n
  · rw [List.getElem?_range hk, if_pos hk]; rfl
  · rw [List.getElem?_eq_none (by simp; omega), if_neg hk]; rfl
theorem bf_times {y x : Item} (h : Bf y x) : ¬ x.time < y.time ∧ (x.time = y.time → ¬ x.seq < y.seq) := by
  refine ⟨fun ht => h.asymm ?_, fun ht hs => h.asymm (bf_seq ht hs)⟩
  unfold Bf cmpItem or2 cmpI
  rw [if_pos ht, if_neg (by decide)]; decide
set_option maxHeartbeats 4000000 in
theorem wDrains (raw : List WOp) : PSpec Try.prog 12 [opsV raw] (V.bool true) := by
  have ok1 := normOps_ok raw
  have hlen := normOps_len raw
  refine pspec tab_ok mix Try.func12 (by kernel_rfl) rfl rfl ?_
  ((conv => whnf); (repeat (first | ((first | refine z1 ?_ | refine z2 ?_ | refine z3 ?_ | refine idxB_at (by decide) rfl ?_ | refine atB_at (by decide) (by decide) ?_ | refine getB_lit _ rfl ?_ | refine z7 ?_); conv => whnf) | trivial)))
  refine callB headC9 ?_
  ((conv => whnf); (repeat (first | ((first | refine z1 ?_ | refine z2 ?_ | refine z3 ?_ | refine idxB_at (by decide) rfl ?_ | refine atB_at (by decide) (by decide) ?_ | refine getB_lit _ rfl ?_ | refine z7 ?_); conv => whnf) | trivial)))
  refine br_dec (fun g => ?_) (fun g => ?_) <;> ((conv => whnf); (repeat (first | ((first | refine z1 ?_ | refine z2 ?_ | refine z3 ?_ | refine idxB_at (by decide) rfl ?_ | refine atB_at (by decide) (by decide) ?_ | refine getB_lit _ rfl ?_ | refine z7 ?_); conv => whnf) | trivial)))
  · exact .same rfl
  have hl : raw.length ≤ 150 := by simp at g; omega
  refine callB (opsC raw (by omega)) ?_
  generalize normOps raw = L at *
  have hL : L.length ≤ 150 := by omega
  clear hlen hl g
  have w1 := wInv_all ok1 (by omega) _ (Nat.le_refl _)
  have hkn := insN_le L L.length
  have r1 := runC L ok1 (by omega)
  have ok2 := popsL_ok ok1 (insN L L.length)
  have el : (L ++ popsL (insN L L.length)).length = L.length + insN L L.length := by unfold popsL; simp
  have w2 := wInv_all ok2 (by omega) _ (Nat.le_refl _)
  have r2 := runC (L ++ popsL (insN L L.length)) ok2 (by omega)
  rw [el] at w2 r2
  have hk := w1.len
  have hO := w1.out
  have hI := w1.ins
  have hW : (wAt (L ++ popsL (insN L L.length)) (L.length + insN L L.length)).out = (mAt L L.length).2 ++ (mAt L L.length).1 := by
    rw [w2.out, mAt_pops L _ _ (Nat.le_refl _), List.take_of_length_le (by omega)]
  have hS := w1.rel.srt
  have gi := gInv_all L L.length
  have known : ∀ x ∈ (mAt L L.length).2 ++ (mAt L L.length).1, ∃ k : Nat, x.seq = k ∧ k < L.length ∧ L[k]? = some ⟨false, x.time⟩ := fun x hx => gi.known x (by
    rcases List.mem_append.1 hx with h | h
    · exact List.mem_append_right _ h
    · exact List.mem_append_left _ h)
  have dist : ((mAt L L.length).2 ++ (mAt L L.length).1).Pairwise fun a b => a.seq ≠ b.seq := (List.perm_append_comm.pairwise_iff fun h => Ne.symm h).2 gi.dist
  generalize wAt L L.length = a at *
  generalize wAt (L ++ popsL (insN L L.length)) (L.length + insN L L.length) = b at *
  generalize (mAt L L.length).1 = S at *
  generalize (mAt L L.length).2 = O at *
  generalize insN L L.length = k at *
  clear w1 w2 gi ok1 ok2
  obtain ⟨ins, pops, depth, len, q, out⟩ := a
  obtain ⟨ins', pops', depth', len', q', out'⟩ := b
  dsimp only at hO hI hW
  subst hO hI hW
  ((conv => whnf); (repeat (first | ((first | refine z1 ?_ | refine z2 ?_ | refine z3 ?_ | refine idxB_at (by decide) rfl ?_ | refine atB_at (by decide) (by decide) ?_ | refine getB_lit _ rfl ?_ | refine z7 ?_); conv => whnf) | exact True.intro)))
  refine callN r1 ?_
  ((conv => whnf); (repeat (first | ((first | refine z1 ?_ | refine z2 ?_ | refine z3 ?_ | refine idxB_at (by decide) rfl ?_ | refine atB_at (by decide) (by decide) ?_ | refine getB_lit _ rfl ?_ | refine z7 ?_); conv => whnf) | exact True.intro)))
  refine loopB tab_ok mix [3, 4, 5, 6] [896] (fun i : Nat => [(7, .ac 1 2 (L.length + i)), (8, V.int i)]) (fun i => [(1, .dat 2 ((L ++ popsL i).map WOp.row))]) (fun i => i ≤ k) (fun i => k - i) [(1, 1216)] 0 rfl (by omega) (by ((conv => whnf); (repeat (first | ((first | refine z1 ?_ | refine z2 ?_ | refine z3 ?_ | refine idxB_at (by decide) rfl ?_ | refine atB_at (by decide) (by decide) ?_ | refine getB_lit _ rfl ?_ | refine z7 ?_); conv => whnf) | exact True.intro))); exact cb (by simp [popsL]) (by ((conv => whnf); (repeat (first | ((first | refine z1 ?_ | refine z2 ?_ | refine z3 ?_ | refine idxB_at (by decide) rfl ?_ | refine atB_at (by decide) (by decide) ?_ | refine getB_lit _ rfl ?_ | refine z7 ?_); conv => whnf) | exact True.intro))))) ?_
  rintro i hi
  ((conv => whnf); (repeat (first | ((first | refine z1 ?_ | refine z2 ?_ | refine z3 ?_ | refine idxB_at (by decide) rfl ?_ | refine atB_at (by decide) (by decide) ?_ | refine getB_lit _ rfl ?_ | refine z7 ?_); conv => whnf) | exact True.intro)))
  refine br_dec (fun u => ?_) (fun u => ?_) <;> ((conv => whnf); (repeat (first | ((first | refine z1 ?_ | refine z2 ?_ | refine z3 ?_ | refine idxB_at (by decide) rfl ?_ | refine atB_at (by decide) (by decide) ?_ | refine getB_lit _ rfl ?_ | refine z7 ?_); conv => whnf) | exact True.intro)))
  · have u' : i < k := by dsimp only at u; omega
    rw [show decide ((i : Int) < ((L.map WOp.row).length : Int)) = true from decide_eq_true (by simp; omega)]
    ((conv => whnf); (repeat (first | ((first | refine z1 ?_ | refine z2 ?_ | refine z3 ?_ | refine idxB_at (by decide) rfl ?_ | refine atB_at (by decide) (by decide) ?_ | refine getB_lit _ rfl ?_ | refine z7 ?_); conv => whnf) | exact True.intro)))
    have hps : popsL (i + 1) = popsL i ++ [⟨true, 0⟩] := List.replicate_succ'
    refine cb ⟨by simp [popsL], by simp; omega⟩ ?_
    ((conv => whnf); (repeat (first | ((first | refine z1 ?_ | refine z2 ?_ | refine z3 ?_ | refine idxB_at (by decide) rfl ?_ | refine atB_at (by decide) (by decide) ?_ | refine getB_lit _ rfl ?_ | refine z7 ?_); conv => whnf) | exact True.intro)))
    refine .mk [(1, 2240)] (i + 1) (by omega) (by omega) ?_
    rw [hps, ← List.append_assoc]
    ((conv => whnf); (repeat (first | ((first | refine z1 ?_ | refine z2 ?_ | refine z3 ?_ | refine idxB_at (by decide) rfl ?_ | refine atB_at (by decide) (by decide) ?_ | refine getB_lit _ rfl ?_ | refine z7 ?_); conv => whnf) | exact True.intro)))
    refine cb ?_ ?_
    · simp [WOp.row]
    ((conv => whnf); (repeat (first | ((first | refine z1 ?_ | refine z2 ?_ | refine z3 ?_ | refine idxB_at (by decide) rfl ?_ | refine atB_at (by decide) (by decide) ?_ | refine getB_lit _ rfl ?_ | refine z7 ?_); conv => whnf) | exact True.intro)))
  · have e : i = k := by dsimp only at u; omega
    subst e
    refine callN r2 ?_
    ((conv => whnf); (repeat (first | ((first | refine z1 ?_ | refine z2 ?_ | refine z3 ?_ | refine idxB_at (by decide) rfl ?_ | refine atB_at (by decide) (by decide) ?_ | refine getB_lit _ rfl ?_ | refine z7 ?_); conv => whnf) | exact True.intro)))
    refine cb ⟨by simp [popsL], rfl⟩ ?_
    ((conv => whnf); (repeat (first | ((first | refine z1 ?_ | refine z2 ?_ | refine z3 ?_ | refine idxB_at (by decide) rfl ?_ | refine atB_at (by decide) (by decide) ?_ | refine getB_lit _ rfl ?_ | refine z7 ?_); conv => whnf) | exact True.intro)))
    clear r1 r2
    rw [show (!decide ((((out ++ S).map Item.row).length : Int) = (i : Int))) = false from by simp; omega]
    ((conv => whnf); (repeat (first | ((first | refine z1 ?_ | refine z2 ?_ | refine z3 ?_ | refine idxB_at (by decide) rfl ?_ | refine atB_at (by decide) (by decide) ?_ | refine getB_lit _ rfl ?_ | refine z7 ?_); conv => whnf) | exact True.intro)))
    rw [show decide ((((out ++ S).map Item.row).length : Int) < ((out.map Item.row).length : Int)) = false from by simp; omega]
    ((conv => whnf); (repeat (first | ((first | refine z1 ?_ | refine z2 ?_ | refine z3 ?_ | refine idxB_at (by decide) rfl ?_ | refine atB_at (by decide) (by decide) ?_ | refine getB_lit _ rfl ?_ | refine z7 ?_); conv => whnf) | exact True.intro)))
    refine slB 0 out.length rfl (by simp [isHi]) (by simp) ?_
    ((conv => whnf); (repeat (first | ((first | refine z1 ?_ | refine z2 ?_ | refine z3 ?_ | refine idxB_at (by decide) rfl ?_ | refine atB_at (by decide) (by decide) ?_ | refine getB_lit _ rfl ?_ | refine z7 ?_); conv => whnf) | exact True.intro)))
    refine callC (sameItemsC out (by omega)) ?_
    ((conv => whnf); (repeat (first | ((first | refine z1 ?_ | refine z2 ?_ | refine z3 ?_ | refine idxB_at (by decide) rfl ?_ | refine atB_at (by decide) (by decide) ?_ | refine getB_lit _ rfl ?_ | refine z7 ?_); conv => whnf) | exact True.intro)))
    have hlm : ((L.map WOp.row).length : Int) = (L.length : Int) := by rw [List.length_map]
    refine makeB tab_ok L.length [.c (.bool false)] _ rfl (.c _ rfl .nil) (congrArg V.int hlm) (congrArg V.int hlm) (by omega) rfl ?_
    rw [← metD_zero]
    ((conv => whnf); (repeat (first | ((first | refine z1 ?_ | refine z2 ?_ | refine z3 ?_ | refine idxB_at (by decide) rfl ?_ | refine atB_at (by decide) (by decide) ?_ | refine getB_lit _ rfl ?_ | refine z7 ?_); conv => whnf) | exact True.intro)))
    generalize hW : out ++ S = W at *
    have hWl : W.length = i := by rw [← hW, List.length_append]; omega
    refine loopB tab_ok mix [3, 4, 5, 9] [] (fun i : Nat => [(11, .ac 1 1 L.length), (12, V.int i)]) (fun i => [(1, .dat 1 (metD (W.take i) L.length))]) (fun i => i ≤ W.length) (fun i => W.length - i) [(1, 4032)] 0 rfl (by omega) (by ((conv => whnf); (repeat (first | ((first | refine z1 ?_ | refine z2 ?_ | refine z3 ?_ | refine idxB_at (by decide) rfl ?_ | refine atB_at (by decide) (by decide) ?_ | refine getB_lit _ rfl ?_ | refine z7 ?_); conv => whnf) | exact True.intro)))) ?_
    rintro j hj
    ((conv => whnf); (repeat (first | ((first | refine z1 ?_ | refine z2 ?_ | refine z3 ?_ | refine idxB_at (by decide) rfl ?_ | refine atB_at (by decide) (by decide) ?_ | refine getB_lit _ rfl ?_ | refine z7 ?_); conv => whnf) | exact True.intro)))
    refine br_dec (fun u => ?_) (fun u => ?_) <;> ((conv => whnf); (repeat (first | ((first | refine z1 ?_ | refine z2 ?_ | refine z3 ?_ | refine idxB_at (by decide) rfl ?_ | refine atB_at (by decide) (by decide) ?_ | refine getB_lit _ rfl ?_ | refine z7 ?_); conv => whnf) | exact True.intro)))
    · have u' : j < W.length := by simpa using u
      obtain ⟨x, hx⟩ := get_lt u'
      obtain ⟨m, hxm, hml, hLm⟩ := known x (List.mem_of_getElem? hx)
      refine idxB hx ?_
      ((conv => whnf); (repeat (first | ((first | refine z1 ?_ | refine z2 ?_ | refine z3 ?_ | refine idxB_at (by decide) rfl ?_ | refine atB_at (by decide) (by decide) ?_ | refine getB_lit _ rfl ?_ | refine z7 ?_); conv => whnf) | exact True.intro)))
      rw [show decide (x.seq < 0) = false from by simp; omega]
      ((conv => whnf); (repeat (first | ((first | refine z1 ?_ | refine z2 ?_ | refine z3 ?_ | refine idxB_at (by decide) rfl ?_ | refine atB_at (by decide) (by decide) ?_ | refine getB_lit _ rfl ?_ | refine z7 ?_); conv => whnf) | exact True.intro)))
      rw [show decide (((L.map WOp.row).length : Int) ≤ x.seq) = false from by simp; omega]
      ((conv => whnf); (repeat (first | ((first | refine z1 ?_ | refine z2 ?_ | refine z3 ?_ | refine idxB_at (by decide) rfl ?_ | refine atB_at (by decide) (by decide) ?_ | refine getB_lit _ rfl ?_ | refine z7 ?_); conv => whnf) | exact True.intro)))
      have hno := metR_no (T := W.take j) (j := m) (fun y hy hs => by
        obtain ⟨a, ha, e⟩ := List.mem_take_iff_getElem.1 hy
        obtain ⟨hj', ex⟩ := List.getElem?_eq_some_iff.1 hx
        have := List.pairwise_iff_getElem.1 dist a j (by omega) hj' (by omega)
        rw [e, ex] at this
        exact this (hs.trans hxm.symm))
      refine atB_eq m hxm hml ?_
      ((conv => whnf); (repeat (first | ((first | refine z1 ?_ | refine z2 ?_ | refine z3 ?_ | refine idxB_at (by decide) rfl ?_ | refine atB_at (by decide) (by decide) ?_ | refine getB_lit _ rfl ?_ | refine z7 ?_); conv => whnf) | exact True.intro)))
      refine getB_lit _ ((metD_get _ hml).trans (congrArg some hno)) ?_
      ((conv => whnf); (repeat (first | ((first | refine z1 ?_ | refine z2 ?_ | refine z3 ?_ | refine idxB_at (by decide) rfl ?_ | refine atB_at (by decide) (by decide) ?_ | refine getB_lit _ rfl ?_ | refine z7 ?_); conv => whnf) | exact True.intro)))
      refine idxB_eq m _ hxm hLm ?_
      ((conv => whnf); (repeat (first | ((first | refine z1 ?_ | refine z2 ?_ | refine z3 ?_ | refine idxB_at (by decide) rfl ?_ | refine atB_at (by decide) (by decide) ?_ | refine getB_lit _ rfl ?_ | refine z7 ?_); conv => whnf) | exact True.intro)))
      refine idxB_eq m _ hxm hLm ?_
      ((conv => whnf); (repeat (first | ((first | refine z1 ?_ | refine z2 ?_ | refine z3 ?_ | refine idxB_at (by decide) rfl ?_ | refine atB_at (by decide) (by decide) ?_ | refine getB_lit _ rfl ?_ | refine z7 ?_); conv => whnf) | exact True.intro)))
      refine idxB hx ?_
      ((conv => whnf); (repeat (first | ((first | refine z1 ?_ | refine z2 ?_ | refine z3 ?_ | refine idxB_at (by decide) rfl ?_ | refine atB_at (by decide) (by decide) ?_ | refine getB_lit _ rfl ?_ | refine z7 ?_); conv => whnf) | exact True.intro)))
      rw [show (!decide (x.time = x.time)) = false from by simp]
      ((conv => whnf); (repeat (first | ((first | refine z1 ?_ | refine z2 ?_ | refine z3 ?_ | refine idxB_at (by decide) rfl ?_ | refine atB_at (by decide) (by decide) ?_ | refine getB_lit _ rfl ?_ | refine z7 ?_); conv => whnf) | exact True.intro)))
      refine atB_eq m hxm hml ?_
      ((conv => whnf); (repeat (first | ((first | refine z1 ?_ | refine z2 ?_ | refine z3 ?_ | refine idxB_at (by decide) rfl ?_ | refine atB_at (by decide) (by decide) ?_ | refine getB_lit _ rfl ?_ | refine z7 ?_); conv => whnf) | exact True.intro)))
      refine getB_lit _ (metD_get _ hml) ?_
      ((conv => whnf); (repeat (first | ((first | refine z1 ?_ | refine z2 ?_ | refine z3 ?_ | refine idxB_at (by decide) rfl ?_ | refine atB_at (by decide) (by decide) ?_ | refine getB_lit _ rfl ?_ | refine z7 ?_); conv => whnf) | exact True.intro)))
      have hnext : (metD (W.take j) L.length).set m [D.c (Value.bool true)] = metD (W.take (j + 1)) L.length := by
        rw [metD_set _ hml hxm, List.take_add_one, hx]; rfl
      by_cases h0 : out.length < j
      · rw [show decide (((out.map Item.row).length : Int) < (j : Int)) = true from decide_eq_true (by simp; omega)]
        ((conv => whnf); (repeat (first | ((first | refine z1 ?_ | refine z2 ?_ | refine z3 ?_ | refine idxB_at (by decide) rfl ?_ | refine atB_at (by decide) (by decide) ?_ | refine getB_lit _ rfl ?_ | refine z7 ?_); conv => whnf) | exact True.intro)))
        obtain ⟨r, rfl⟩ : ∃ r, j = r + 1 := ⟨j - 1, by omega⟩
        obtain ⟨y, hy⟩ := get_lt (show r < W.length by omega)
        have hb : Bf y x := by
          have a1 : S[r - out.length]? = some y := by rw [← hy, ← hW, List.getElem?_append_right (by omega)]
          have a2 : S[r + 1 - out.length]? = some x := by rw [← hx, ← hW, List.getElem?_append_right (by omega)]
          obtain ⟨p1, e1⟩ := List.getElem?_eq_some_iff.1 a1
          obtain ⟨p2, e2⟩ := List.getElem?_eq_some_iff.1 a2
          have := List.pairwise_iff_getElem.1 hS _ _ p1 p2 (by omega)
          rwa [e1, e2] at this
        obtain ⟨t1, t2⟩ := bf_times hb
        refine idxB hx ?_
        ((conv => whnf); (repeat (first | ((first | refine z1 ?_ | refine z2 ?_ | refine z3 ?_ | refine idxB_at (by decide) rfl ?_ | refine atB_at (by decide) (by decide) ?_ | refine getB_lit _ rfl ?_ | refine z7 ?_); conv => whnf) | exact True.intro)))
        refine idxB_eq r _ (by omega) hy ?_
        ((conv => whnf); (repeat (first | ((first | refine z1 ?_ | refine z2 ?_ | refine z3 ?_ | refine idxB_at (by decide) rfl ?_ | refine atB_at (by decide) (by decide) ?_ | refine getB_lit _ rfl ?_ | refine z7 ?_); conv => whnf) | exact True.intro)))
        rw [show decide (x.time < y.time) = false from decide_eq_false t1]
        ((conv => whnf); (repeat (first | ((first | refine z1 ?_ | refine z2 ?_ | refine z3 ?_ | refine idxB_at (by decide) rfl ?_ | refine atB_at (by decide) (by decide) ?_ | refine getB_lit _ rfl ?_ | refine z7 ?_); conv => whnf) | exact True.intro)))
        refine idxB hx ?_
        ((conv => whnf); (repeat (first | ((first | refine z1 ?_ | refine z2 ?_ | refine z3 ?_ | refine idxB_at (by decide) rfl ?_ | refine atB_at (by decide) (by decide) ?_ | refine getB_lit _ rfl ?_ | refine z7 ?_); conv => whnf) | exact True.intro)))
        refine idxB_eq r _ (by omega) hy ?_
        ((conv => whnf); (repeat (first | ((first | refine z1 ?_ | refine z2 ?_ | refine z3 ?_ | refine idxB_at (by decide) rfl ?_ | refine atB_at (by decide) (by decide) ?_ | refine getB_lit _ rfl ?_ | refine z7 ?_); conv => whnf) | exact True.intro)))
        by_cases h1 : x.time = y.time
        · rw [show decide (x.time = y.time) = true from decide_eq_true h1]
          ((conv => whnf); (repeat (first | ((first | refine z1 ?_ | refine z2 ?_ | refine z3 ?_ | refine idxB_at (by decide) rfl ?_ | refine atB_at (by decide) (by decide) ?_ | refine getB_lit _ rfl ?_ | refine z7 ?_); conv => whnf) | exact True.intro)))
          refine idxB_eq r _ (by omega) hy ?_
          ((conv => whnf); (repeat (first | ((first | refine z1 ?_ | refine z2 ?_ | refine z3 ?_ | refine idxB_at (by decide) rfl ?_ | refine atB_at (by decide) (by decide) ?_ | refine getB_lit _ rfl ?_ | refine z7 ?_); conv => whnf) | exact True.intro)))
          rw [show decide (x.seq < y.seq) = false from decide_eq_false (t2 h1)]
          ((conv => whnf); (repeat (first | ((first | refine z1 ?_ | refine z2 ?_ | refine z3 ?_ | refine idxB_at (by decide) rfl ?_ | refine atB_at (by decide) (by decide) ?_ | refine getB_lit _ rfl ?_ | refine z7 ?_); conv => whnf) | exact True.intro)))
          refine .mk [] (r + 1 + 1) (by omega) (by omega) ?_
          ((conv => whnf); (repeat (first | ((first | refine z1 ?_ | refine z2 ?_ | refine z3 ?_ | refine idxB_at (by decide) rfl ?_ | refine atB_at (by decide) (by decide) ?_ | refine getB_lit _ rfl ?_ | refine z7 ?_); conv => whnf) | exact True.intro)))
        · rw [show decide (x.time = y.time) = false from decide_eq_false h1]
          ((conv => whnf); (repeat (first | ((first | refine z1 ?_ | refine z2 ?_ | refine z3 ?_ | refine idxB_at (by decide) rfl ?_ | refine atB_at (by decide) (by decide) ?_ | refine getB_lit _ rfl ?_ | refine z7 ?_); conv => whnf) | exact True.intro)))
          refine .mk [] (r + 1 + 1) (by omega) (by omega) ?_
          ((conv => whnf); (repeat (first | ((first | refine z1 ?_ | refine z2 ?_ | refine z3 ?_ | refine idxB_at (by decide) rfl ?_ | refine atB_at (by decide) (by decide) ?_ | refine getB_lit _ rfl ?_ | refine z7 ?_); conv => whnf) | exact True.intro)))
      · rw [show decide (((out.map Item.row).length : Int) < (j : Int)) = false from decide_eq_false (by simp; omega)]
        ((conv => whnf); (repeat (first | ((first | refine z1 ?_ | refine z2 ?_ | refine z3 ?_ | refine idxB_at (by decide) rfl ?_ | refine atB_at (by decide) (by decide) ?_ | refine getB_lit _ rfl ?_ | refine z7 ?_); conv => whnf) | exact True.intro)))
        refine .mk [] (j + 1) (by omega) (by omega) ?_
        ((conv => whnf); (repeat (first | ((first | refine z1 ?_ | refine z2 ?_ | refine z3 ?_ | refine idxB_at (by decide) rfl ?_ | refine atB_at (by decide) (by decide) ?_ | refine getB_lit _ rfl ?_ | refine z7 ?_); conv => whnf) | exact True.intro)))
    · exact .same rfl
theorem specDrains (rows : List (List D)) (h : AllR (ShapeD tab 5) [58] rows) : PSpec Try.prog 12 (List.zipWith (argV tab) [58] rows) (V.bool true) := by
  obtain ⟨_, _, rfl, h1, h⟩ := h.cons
  cases h.nil
  obtain ⟨l, rfl⟩ := wopsOf h1
  exact wDrains l
end Go.Proofs.Ytmihhkcbbdpnaaa.Abs
