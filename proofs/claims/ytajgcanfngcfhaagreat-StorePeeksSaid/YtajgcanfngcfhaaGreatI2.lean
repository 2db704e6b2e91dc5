/- The reference arena: validity; a store in order has a valid picture. -/
import Derived.Test.YtajgcanfngcfhaaGreatI1
namespace Go.Proofs.YtajgcanfngcfhaaGreat.Abs
open Go.Proofs
set_option maxRecDepth 10000
set_option linter.unusedSimpArgs false
set_option linter.unusedVariables false
/-- the picture of an arena is in order -/
structure ArOk (l : List Slt) (idle : List Int) (next : Int) : Prop where
  len : 1 ≤ l.length ∧ l.length ≤ 64
  nx : 0 ≤ next ∧ next ≤ 1099511627776
  idn : idle.length + liveN l = l.length
  good : ∀ x ∈ l, x.Good next
  free : ∀ (i : Nat) (x : Slt), l[i]? = some x → (x.state = 0 ↔ (i : Int) ∈ idle)
  seqs : ∀ (i k : Nat) (x y : Slt), k < i → l[i]? = some x → l[k]? = some y → x.state ≠ 0 → y.state ≠ 0 → x.seq ≠ y.seq
set_option maxHeartbeats 2000000 in
theorem valid05C (l : List Slt) (idle : List Int) (next : Int) (h : ArOk l idle next) : PSpec Tryz.prog 27 [arenaV l idle next] (V.bool true) := by
  have hlen := h.len
  have hnx := h.nx
  have hid := h.idn
  refine pspec tab_ok mix Tryz.func27 (by kernel_rfl) rfl rfl ?_
  ((conv => whnf); (repeat (first | ((first | refine z1 ?_ | refine z2 ?_ | refine z3 ?_ | refine idxB_at (by decide) rfl ?_ | refine atB_at (by decide) (by decide) ?_ | refine getB_lit _ rfl ?_ | refine z7 ?_); conv => whnf) | exact True.intro)))
  have hml : (l.map Slt.row).length = l.length := List.length_map ..
  have hmi : (idle.map intD).length = idle.length := List.length_map ..
  rw [decide_eq_false (show ¬ ((l.map Slt.row).length : Int) < 1 by omega)]
  ((conv => whnf); (repeat (first | ((first | refine z1 ?_ | refine z2 ?_ | refine z3 ?_ | refine idxB_at (by decide) rfl ?_ | refine atB_at (by decide) (by decide) ?_ | refine getB_lit _ rfl ?_ | refine z7 ?_); conv => whnf) | exact True.intro)))
  rw [decide_eq_false (show ¬ (64 : Int) < (l.map Slt.row).length by omega)]
  ((conv => whnf); (repeat (first | ((first | refine z1 ?_ | refine z2 ?_ | refine z3 ?_ | refine idxB_at (by decide) rfl ?_ | refine atB_at (by decide) (by decide) ?_ | refine getB_lit _ rfl ?_ | refine z7 ?_); conv => whnf) | exact True.intro)))
  rw [decide_eq_false (show ¬ next < 0 by omega)]
  ((conv => whnf); (repeat (first | ((first | refine z1 ?_ | refine z2 ?_ | refine z3 ?_ | refine idxB_at (by decide) rfl ?_ | refine atB_at (by decide) (by decide) ?_ | refine getB_lit _ rfl ?_ | refine z7 ?_); conv => whnf) | exact True.intro)))
  rw [decide_eq_false (show ¬ 1099511627776 < next by omega)]
  ((conv => whnf); (repeat (first | ((first | refine z1 ?_ | refine z2 ?_ | refine z3 ?_ | refine idxB_at (by decide) rfl ?_ | refine atB_at (by decide) (by decide) ?_ | refine getB_lit _ rfl ?_ | refine z7 ?_); conv => whnf) | exact True.intro)))
  refine dcallB (liveC l idle next (by omega)) ?_
  ((conv => whnf); (repeat (first | ((first | refine z1 ?_ | refine z2 ?_ | refine z3 ?_ | refine idxB_at (by decide) rfl ?_ | refine atB_at (by decide) (by decide) ?_ | refine getB_lit _ rfl ?_ | refine z7 ?_); conv => whnf) | exact True.intro)))
  rw [show (!decide (((idle.map intD).length : Int) = ((l.map Slt.row).length : Int) - liveN l)) = false by rw [decide_eq_true (by omega)]; rfl]
  ((conv => whnf); (repeat (first | ((first | refine z1 ?_ | refine z2 ?_ | refine z3 ?_ | refine idxB_at (by decide) rfl ?_ | refine atB_at (by decide) (by decide) ?_ | refine getB_lit _ rfl ?_ | refine z7 ?_); conv => whnf) | exact True.intro)))
  refine loopB tab_ok mix [1] [0] (fun i : Nat => [(3, V.int i)]) (fun i => []) (fun i => i ≤ l.length) (fun i => l.length - i) [] 0 rfl (by omega) (by ((conv => whnf); (repeat (first | ((first | refine z1 ?_ | refine z2 ?_ | refine z3 ?_ | refine idxB_at (by decide) rfl ?_ | refine atB_at (by decide) (by decide) ?_ | refine getB_lit _ rfl ?_ | refine z7 ?_); conv => whnf) | exact True.intro)))) ?_
  rintro i hi
  ((conv => whnf); (repeat (first | ((first | refine z1 ?_ | refine z2 ?_ | refine z3 ?_ | refine idxB_at (by decide) rfl ?_ | refine atB_at (by decide) (by decide) ?_ | refine getB_lit _ rfl ?_ | refine z7 ?_); conv => whnf) | exact True.intro)))
  refine br_dec (fun u => ?_) (fun u => ?_) <;> ((conv => whnf); (repeat (first | ((first | refine z1 ?_ | refine z2 ?_ | refine z3 ?_ | refine idxB_at (by decide) rfl ?_ | refine atB_at (by decide) (by decide) ?_ | refine getB_lit _ rfl ?_ | refine z7 ?_); conv => whnf) | exact True.intro)))
  · have u' : i < l.length := by simpa using u
    obtain ⟨x, hx⟩ := get_lt u'
    have hf := h.free i x hx
    refine idxB hx ?_
    ((conv => whnf); (repeat (first | ((first | refine z1 ?_ | refine z2 ?_ | refine z3 ?_ | refine idxB_at (by decide) rfl ?_ | refine atB_at (by decide) (by decide) ?_ | refine getB_lit _ rfl ?_ | refine z7 ?_); conv => whnf) | exact True.intro)))
    refine dcallB (slot05C x next (h.good x (List.mem_of_getElem? hx))) ?_
    ((conv => whnf); (repeat (first | ((first | refine z1 ?_ | refine z2 ?_ | refine z3 ?_ | refine idxB_at (by decide) rfl ?_ | refine atB_at (by decide) (by decide) ?_ | refine getB_lit _ rfl ?_ | refine z7 ?_); conv => whnf) | exact True.intro)))
    refine dcallB (containsC idle i (by omega)) ?_
    ((conv => whnf); (repeat (first | ((first | refine z1 ?_ | refine z2 ?_ | refine z3 ?_ | refine idxB_at (by decide) rfl ?_ | refine atB_at (by decide) (by decide) ?_ | refine getB_lit _ rfl ?_ | refine z7 ?_); conv => whnf) | exact True.intro)))
    rw [show (!(decide (x.state = 0) == decide ((i : Int) ∈ idle))) = false by
      by_cases c : x.state = 0
      · rw [decide_eq_true c, decide_eq_true (hf.1 c)]; rfl
      · rw [decide_eq_false c, decide_eq_false (fun e => c (hf.2 e))]; rfl]
    ((conv => whnf); (repeat (first | ((first | refine z1 ?_ | refine z2 ?_ | refine z3 ?_ | refine idxB_at (by decide) rfl ?_ | refine atB_at (by decide) (by decide) ?_ | refine getB_lit _ rfl ?_ | refine z7 ?_); conv => whnf) | exact True.intro)))
    refine loopB tab_ok mix [1, 3, 4] [0, 2880] (fun k : Nat => [(5, V.int k)]) (fun k => []) (fun k => k ≤ i) (fun k => i - k) [] 0 rfl (by omega) (by ((conv => whnf); (repeat (first | ((first | refine z1 ?_ | refine z2 ?_ | refine z3 ?_ | refine idxB_at (by decide) rfl ?_ | refine atB_at (by decide) (by decide) ?_ | refine getB_lit _ rfl ?_ | refine z7 ?_); conv => whnf) | exact True.intro)))) ?_
    rintro k hk
    ((conv => whnf); (repeat (first | ((first | refine z1 ?_ | refine z2 ?_ | refine z3 ?_ | refine idxB_at (by decide) rfl ?_ | refine atB_at (by decide) (by decide) ?_ | refine getB_lit _ rfl ?_ | refine z7 ?_); conv => whnf) | exact True.intro)))
    refine br_dec (fun v => ?_) (fun v => ?_) <;> ((conv => whnf); (repeat (first | ((first | refine z1 ?_ | refine z2 ?_ | refine z3 ?_ | refine idxB_at (by decide) rfl ?_ | refine atB_at (by decide) (by decide) ?_ | refine getB_lit _ rfl ?_ | refine z7 ?_); conv => whnf) | exact True.intro)))
    · have v' : k < i := by omega
      obtain ⟨y, hy⟩ := get_lt (show k < l.length by omega)
      by_cases cx : x.state = 0
      · rw [show (!decide (x.state = 0)) = false by rw [decide_eq_true cx]; rfl]
        ((conv => whnf); (repeat (first | ((first | refine z1 ?_ | refine z2 ?_ | refine z3 ?_ | refine idxB_at (by decide) rfl ?_ | refine atB_at (by decide) (by decide) ?_ | refine getB_lit _ rfl ?_ | refine z7 ?_); conv => whnf) | exact True.intro)))
        refine .mk [] (k + 1) (by omega) (by omega) ?_
        ((conv => whnf); (repeat (first | ((first | refine z1 ?_ | refine z2 ?_ | refine z3 ?_ | refine idxB_at (by decide) rfl ?_ | refine atB_at (by decide) (by decide) ?_ | refine getB_lit _ rfl ?_ | refine z7 ?_); conv => whnf) | exact True.intro)))
      · rw [show (!decide (x.state = 0)) = true by rw [decide_eq_false cx]; rfl]
        ((conv => whnf); (repeat (first | ((first | refine z1 ?_ | refine z2 ?_ | refine z3 ?_ | refine idxB_at (by decide) rfl ?_ | refine atB_at (by decide) (by decide) ?_ | refine getB_lit _ rfl ?_ | refine z7 ?_); conv => whnf) | exact True.intro)))
        refine idxB hy ?_
        ((conv => whnf); (repeat (first | ((first | refine z1 ?_ | refine z2 ?_ | refine z3 ?_ | refine idxB_at (by decide) rfl ?_ | refine atB_at (by decide) (by decide) ?_ | refine getB_lit _ rfl ?_ | refine z7 ?_); conv => whnf) | exact True.intro)))
        by_cases cy : y.state = 0
        · rw [show (!decide (y.state = 0)) = false by rw [decide_eq_true cy]; rfl]
          ((conv => whnf); (repeat (first | ((first | refine z1 ?_ | refine z2 ?_ | refine z3 ?_ | refine idxB_at (by decide) rfl ?_ | refine atB_at (by decide) (by decide) ?_ | refine getB_lit _ rfl ?_ | refine z7 ?_); conv => whnf) | exact True.intro)))
          refine .mk [] (k + 1) (by omega) (by omega) ?_
          ((conv => whnf); (repeat (first | ((first | refine z1 ?_ | refine z2 ?_ | refine z3 ?_ | refine idxB_at (by decide) rfl ?_ | refine atB_at (by decide) (by decide) ?_ | refine getB_lit _ rfl ?_ | refine z7 ?_); conv => whnf) | exact True.intro)))
        · rw [show (!decide (y.state = 0)) = true by rw [decide_eq_false cy]; rfl]
          ((conv => whnf); (repeat (first | ((first | refine z1 ?_ | refine z2 ?_ | refine z3 ?_ | refine idxB_at (by decide) rfl ?_ | refine atB_at (by decide) (by decide) ?_ | refine getB_lit _ rfl ?_ | refine z7 ?_); conv => whnf) | exact True.intro)))
          refine idxB hy ?_
          ((conv => whnf); (repeat (first | ((first | refine z1 ?_ | refine z2 ?_ | refine z3 ?_ | refine idxB_at (by decide) rfl ?_ | refine atB_at (by decide) (by decide) ?_ | refine getB_lit _ rfl ?_ | refine z7 ?_); conv => whnf) | exact True.intro)))
          rw [decide_eq_false (h.seqs i k x y v' hx hy cx cy)]
          ((conv => whnf); (repeat (first | ((first | refine z1 ?_ | refine z2 ?_ | refine z3 ?_ | refine idxB_at (by decide) rfl ?_ | refine atB_at (by decide) (by decide) ?_ | refine getB_lit _ rfl ?_ | refine z7 ?_); conv => whnf) | exact True.intro)))
          refine .mk [] (k + 1) (by omega) (by omega) ?_
          ((conv => whnf); (repeat (first | ((first | refine z1 ?_ | refine z2 ?_ | refine z3 ?_ | refine idxB_at (by decide) rfl ?_ | refine atB_at (by decide) (by decide) ?_ | refine getB_lit _ rfl ?_ | refine z7 ?_); conv => whnf) | exact True.intro)))
    · refine .mk [] (i + 1) (by omega) (by omega) ?_
      ((conv => whnf); (repeat (first | ((first | refine z1 ?_ | refine z2 ?_ | refine z3 ?_ | refine idxB_at (by decide) rfl ?_ | refine atB_at (by decide) (by decide) ?_ | refine getB_lit _ rfl ?_ | refine z7 ?_); conv => whnf) | exact True.intro)))
  · exact .same rfl
theorem SOk.pics_len {n : Nat} {s : Sto} {S : List Item} {A : Nat → Prop} {K : Nat} (h : SOk n s S A K) : s.pics.length = n := by simp [Sto.pics, h.ns]
theorem SOk.pics_get {n : Nat} {s : Sto} {S : List Item} {A : Nat → Prop} {K : Nat} (h : SOk n s S A K) {i : Nat} {x : Slt} (hx : s.pics[i]? = some x) : i < n ∧ x = s.pic i := by
  have hi : i < n := by
    have := (List.getElem?_eq_some_iff.1 hx).1
    rw [h.pics_len] at this; exact this
  refine ⟨hi, ?_⟩
  unfold Sto.pics at hx
  rw [List.getElem?_map, List.getElem?_range (by rw [h.ns]; exact hi)] at hx
  exact (Option.some.inj hx).symm
theorem SOk.live_eq {n : Nat} {s : Sto} {S : List Item} {A : Nat → Prop} {K : Nat} (h : SOk n s S A K) : liveN s.pics = ((List.range n).filter fun i => decide (s.st i ≠ 0)).length := by
  unfold liveN Sto.pics
  rw [List.filter_map, List.length_map, h.ns]; rfl
theorem SOk.idle_eq {n : Nat} {s : Sto} {S : List Item} {A : Nat → Prop} {K : Nat} (h : SOk n s S A K) : s.idle.length = ((List.range n).filter fun i => decide (s.st i = 0)).length := by
  have hd : (((List.range n).filter fun i => decide (s.st i = 0)).map fun i : Nat => (i : Int)).Nodup :=
    nodup_map_on (List.nodup_range.sublist (List.filter_sublist)) fun a _ b _ e => by omega
  have hp := (List.perm_ext_iff_of_nodup h.idn hd).2 fun x => by
    constructor
    · intro hx
      have h1 := h.idl x hx
      refine List.mem_map.2 ⟨x.toNat, List.mem_filter.2 ⟨List.mem_range.2 (by omega), decide_eq_true ((h.fr x.toNat (by omega)).1 ?_)⟩, by omega⟩
      rw [show ((x.toNat : Nat) : Int) = x by omega]; exact hx
    · intro hx
      obtain ⟨i, hi, rfl⟩ := List.mem_map.1 hx
      obtain ⟨h1, h2⟩ := List.mem_filter.1 hi
      exact (h.fr i (List.mem_range.1 h1)).2 (of_decide_eq_true h2)
  rw [hp.length_eq, List.length_map]
theorem filter_split (p : Nat → Prop) [DecidablePred p] : ∀ l : List Nat, (l.filter fun i => decide (p i)).length + (l.filter fun i => decide (¬ p i)).length = l.length
  | [] => rfl
  | x :: l => by
    have := filter_split p l
    by_cases c : p x <;> simp [c] at this ⊢ <;> omega
theorem SOk.arOk {n : Nat} {s : Sto} {S : List Item} {A : Nat → Prop} {K : Nat} (h : SOk n s S A K) : ArOk s.pics s.idle s.next := by
  have hl := h.pics_len
  have h12 := h.n12
  have hk := h.kb
  have hx := h.nx
  refine ⟨by omega, by omega, ?_, ?_, ?_, ?_⟩
  · have := filter_split (fun i => s.st i = 0) (List.range n)
    rw [List.length_range] at this
    rw [hl, h.idle_eq, h.live_eq]; exact this
  · intro x hx
    obtain ⟨i, hi⟩ := List.mem_iff_getElem?.1 hx
    obtain ⟨hin, rfl⟩ := h.pics_get hi
    have hw := h.wd i hin
    have hs : 0 ≤ s.st i ∧ s.st i ≤ 3 := by unfold Sto.st; omega
    refine ⟨by show 0 ≤ s.m.word (i + 1) / 4; omega, by have := hw.2; show s.gn i ≤ _; omega, hs.1, hs.2, fun e => h.sf i hin e, fun e => ?_⟩
    obtain ⟨⟨t1, t2⟩, t3, t4⟩ := h.tm i hin e
    exact ⟨t1, t2, t3, t4⟩
  · intro i x hx
    obtain ⟨hin, rfl⟩ := h.pics_get hx
    exact (h.fr i hin).symm
  · intro i k x y hk hx hy cx cy e
    obtain ⟨hin, rfl⟩ := h.pics_get hx
    obtain ⟨hkn, rfl⟩ := h.pics_get hy
    have := h.sq i k hin hkn cx cy e
    omega
theorem SOk.items_len {n : Nat} {s : Sto} {S : List Item} {K : Nat} (h : SOk n s S (fun _ => False) K) : S.length = liveN s.pics := by
  rw [h.live_eq]
  have hd : (((List.range n).filter fun i => decide (s.st i ≠ 0)).map s.item).Nodup :=
    nodup_map_on (List.nodup_range.sublist (List.filter_sublist)) fun a _ b _ e => item_inj e
  have hp := (List.perm_ext_iff_of_nodup h.nodup hd).2 fun x => by
    constructor
    · intro hx
      obtain ⟨i, hi, rfl, h1, _⟩ := h.itm x hx
      exact List.mem_map.2 ⟨i, List.mem_filter.2 ⟨List.mem_range.2 hi, decide_eq_true h1⟩, rfl⟩
    · intro hx
      obtain ⟨i, hi, rfl⟩ := List.mem_map.1 hx
      obtain ⟨h1, h2⟩ := List.mem_filter.1 hi
      rcases h.all i (List.mem_range.1 h1) (of_decide_eq_true h2) with h3 | h3
      · exact h3.elim
      · exact h3
  rw [hp.length_eq, List.length_map]
end Go.Proofs.YtajgcanfngcfhaaGreat.Abs
