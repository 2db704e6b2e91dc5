/- The store: its methods. -/
import Derived.Test.YtajgcanfngcfhaaGreatH4
namespace Go.Proofs.YtajgcanfngcfhaaGreat.Abs
open Go.Proofs
set_option maxRecDepth 10000
set_option linter.unusedSimpArgs false
set_option linter.unusedVariables false
def accB (r : Rng) (t : Int) : Bool := decide (r.at r.cur ≤ t)
def accQ (q : Lad) (t : Int) : Bool := q.rungs.any fun r => accB r t
def timeBox (t : Int) : List (Nat × B) := [(0, .rows 1 [[V.int t]])]
theorem accepts1C (r : Rng) (t : Int) (hr : r.Fits) : LSpec Tryz.prog 133 [r.v, .p 0 1 0 0] (timeBox t) 1 (V.bool (accB r t)) (timeBox t) 1 := by
  refine lspec tab_ok mix Tryz.func133 (by kernel_rfl) (by rfl) (by rfl) (by rfl) (by rfl) ?_
  ((conv => whnf); (repeat (first | ((first | refine z1 ?_ | refine z2 ?_ | refine z3 ?_ | refine idxB_at (by decide) rfl ?_ | refine atB_at (by decide) (by decide) ?_ | refine getB_lit _ rfl ?_ | refine z7 ?_); conv => whnf) | exact True.intro)))
  refine dcallB (currentC r hr) ?_
  ((conv => whnf); (repeat (first | ((first | refine z1 ?_ | refine z2 ?_ | refine z3 ?_ | refine idxB_at (by decide) rfl ?_ | refine atB_at (by decide) (by decide) ?_ | refine getB_lit _ rfl ?_ | refine z7 ?_); conv => whnf) | exact True.intro)))
  refine .mk [] ?_
  ((conv => whnf); (repeat (first | ((first | refine z1 ?_ | refine z2 ?_ | refine z3 ?_ | refine idxB_at (by decide) rfl ?_ | refine atB_at (by decide) (by decide) ?_ | refine getB_lit _ rfl ?_ | refine z7 ?_); conv => whnf) | exact True.intro)))
def idxI : Option Nat → Int
  | some i => i
  | none => -1
theorem indexRngs (l : List Rng) (t : Int) (hr : ∀ r ∈ l, r.Fits) (hl : l.length < 1000000) :
    LSpec Tryz.prog 175 [rngsV l, .fn (.func 133) [] [.p 0 1 0 0]] (timeBox t) 1 (V.int (idxI (l.findIdx? fun r => accB r t))) (timeBox t) 1 := by
  refine lspec tab_ok mix Tryz.func175 (by kernel_rfl) (by rfl) (by rfl) (by rfl) (by rfl) ?_
  ((conv => whnf); (repeat (first | ((first | refine z1 ?_ | refine z2 ?_ | refine z3 ?_ | refine idxB_at (by decide) rfl ?_ | refine atB_at (by decide) (by decide) ?_ | refine getB_lit _ rfl ?_ | refine z7 ?_); conv => whnf) | exact True.intro)))
  refine loopB tab_ok mix [0, 1, 7] [0] (fun i : Nat => [(8, V.int i)]) (fun i => []) (fun i => i ≤ l.length ∧ ∀ r ∈ l.take i, accB r t = false) (fun i => l.length - i) [] 0 rfl ⟨by omega, by simp⟩ (by ((conv => whnf); (repeat (first | ((first | refine z1 ?_ | refine z2 ?_ | refine z3 ?_ | refine idxB_at (by decide) rfl ?_ | refine atB_at (by decide) (by decide) ?_ | refine getB_lit _ rfl ?_ | refine z7 ?_); conv => whnf) | exact True.intro)))) ?_
  rintro i ⟨h1, h2⟩
  ((conv => whnf); (repeat (first | ((first | refine z1 ?_ | refine z2 ?_ | refine z3 ?_ | refine idxB_at (by decide) rfl ?_ | refine atB_at (by decide) (by decide) ?_ | refine getB_lit _ rfl ?_ | refine z7 ?_); conv => whnf) | exact True.intro)))
  refine br_dec (fun u => ?_) (fun u => ?_) <;> ((conv => whnf); (repeat (first | ((first | refine z1 ?_ | refine z2 ?_ | refine z3 ?_ | refine idxB_at (by decide) rfl ?_ | refine atB_at (by decide) (by decide) ?_ | refine getB_lit _ rfl ?_ | refine z7 ?_); conv => whnf) | exact True.intro)))
  · have u' : i < l.length := by simpa using u
    obtain ⟨r, hri⟩ := get_lt u'
    refine idxB hri ?_
    ((conv => whnf); (repeat (first | ((first | refine z1 ?_ | refine z2 ?_ | refine z3 ?_ | refine idxB_at (by decide) rfl ?_ | refine atB_at (by decide) (by decide) ?_ | refine getB_lit _ rfl ?_ | refine z7 ?_); conv => whnf) | exact True.intro)))
    refine callL (accepts1C r t (hr r (List.mem_of_getElem? hri))) [some 0] [] rfl ?_
    ((conv => whnf); (repeat (first | ((first | refine z1 ?_ | refine z2 ?_ | refine z3 ?_ | refine idxB_at (by decide) rfl ?_ | refine atB_at (by decide) (by decide) ?_ | refine getB_lit _ rfl ?_ | refine z7 ?_); conv => whnf) | exact True.intro)))
    refine brK_mk (fun e => ?_) (fun e => ?_) <;> ((conv => whnf); (repeat (first | ((first | refine z1 ?_ | refine z2 ?_ | refine z3 ?_ | refine idxB_at (by decide) rfl ?_ | refine atB_at (by decide) (by decide) ?_ | refine getB_lit _ rfl ?_ | refine z7 ?_); conv => whnf) | exact True.intro)))
    · have hfi : l.findIdx? (fun r => accB r t) = some i := by
        rw [List.findIdx?_eq_some_iff_getElem]
        obtain ⟨hl', hx'⟩ := List.getElem?_eq_some_iff.1 hri
        refine ⟨hl', by rw [hx']; exact e, fun j hj => ?_⟩
        have := h2 l[j] (List.mem_take_iff_getElem.2 ⟨j, by omega, rfl⟩)
        simpa using this
      rw [hfi]
      refine .mk [] ?_
      ((conv => whnf); (repeat (first | ((first | refine z1 ?_ | refine z2 ?_ | refine z3 ?_ | refine idxB_at (by decide) rfl ?_ | refine atB_at (by decide) (by decide) ?_ | refine getB_lit _ rfl ?_ | refine z7 ?_); conv => whnf) | exact True.intro)))
    · refine .mk [] (i + 1) ⟨by omega, ?_⟩ (by omega) ?_
      · rw [List.take_add_one, hri]
        intro y hy
        rcases List.mem_append.1 hy with hy | hy
        · exact h2 y hy
        · simp at hy; subst hy; exact e
      · ((conv => whnf); (repeat (first | ((first | refine z1 ?_ | refine z2 ?_ | refine z3 ?_ | refine idxB_at (by decide) rfl ?_ | refine atB_at (by decide) (by decide) ?_ | refine getB_lit _ rfl ?_ | refine z7 ?_); conv => whnf) | exact True.intro)))
  · have e : i = l.length := by simp at u; omega
    subst e
    rw [List.take_length] at h2
    have hfi : l.findIdx? (fun r => accB r t) = none := List.findIdx?_eq_none_iff.2 fun x hx => h2 x hx
    rw [hfi]
    refine .mk [] ?_
    ((conv => whnf); (repeat (first | ((first | refine z1 ?_ | refine z2 ?_ | refine z3 ?_ | refine idxB_at (by decide) rfl ?_ | refine atB_at (by decide) (by decide) ?_ | refine getB_lit _ rfl ?_ | refine z7 ?_); conv => whnf) | exact True.intro)))
theorem idxI_ge {l : List Rng} {p : Rng → Bool} : decide (0 ≤ idxI (l.findIdx? p)) = l.any p := by
  cases h : l.findIdx? p with
  | none =>
    have h' := List.findIdx?_eq_none_iff.1 h
    have e : l.any p = false := by rw [List.any_eq_false]; intro x hx; rw [h' x hx]; simp
    rw [e]; rfl
  | some i =>
    obtain ⟨hl, h1, _⟩ := List.findIdx?_eq_some_iff_getElem.1 h
    have e : l.any p = true := List.any_eq_true.2 ⟨l[i], List.getElem_mem hl, h1⟩
    rw [e]; exact decide_eq_true (show (0 : Int) ≤ (i : Int) by omega)
theorem containsRngs (l : List Rng) (t : Int) (hr : ∀ r ∈ l, r.Fits) (hl : l.length < 1000000) :
    LSpec Tryz.prog 132 [rngsV l, .fn (.func 133) [] [.p 0 1 0 0]] (timeBox t) 1 (V.bool (l.any fun r => accB r t)) (timeBox t) 1 := by
  refine lspec tab_ok mix Tryz.func132 (by kernel_rfl) (by rfl) (by rfl) (by rfl) (by rfl) ?_
  ((conv => whnf); (repeat (first | ((first | refine z1 ?_ | refine z2 ?_ | refine z3 ?_ | refine idxB_at (by decide) rfl ?_ | refine atB_at (by decide) (by decide) ?_ | refine getB_lit _ rfl ?_ | refine z7 ?_); conv => whnf) | exact True.intro)))
  refine callL (indexRngs l t hr hl) [some 0] [] rfl ?_
  ((conv => whnf); (repeat (first | ((first | refine z1 ?_ | refine z2 ?_ | refine z3 ?_ | refine idxB_at (by decide) rfl ?_ | refine atB_at (by decide) (by decide) ?_ | refine getB_lit _ rfl ?_ | refine z7 ?_); conv => whnf) | exact True.intro)))
  rw [idxI_ge]
  refine .mk [] ?_
  ((conv => whnf); (repeat (first | ((first | refine z1 ?_ | refine z2 ?_ | refine z3 ?_ | refine idxB_at (by decide) rfl ?_ | refine atB_at (by decide) (by decide) ?_ | refine getB_lit _ rfl ?_ | refine z7 ?_); conv => whnf) | exact True.intro)))
theorem acceptsInC (s : Sto) (t : Int) (hr : ∀ r ∈ s.q.rungs, r.Fits) (hl : s.q.rungs.length < 1000000) : LSpec Tryz.prog 78 [.p 0 10 0 0, V.int t] (stoB s 2) 5 (V.bool (accQ s.q t)) (stoB s 2) 5 := by
  refine lspec tab_ok mix Tryz.func78 (by kernel_rfl) (by rfl) (by rfl) (by rfl) (by rfl) ?_
  ((conv => whnf); (repeat (first | ((first | refine z1 ?_ | refine z2 ?_ | refine z3 ?_ | refine idxB_at (by decide) rfl ?_ | refine atB_at (by decide) (by decide) ?_ | refine getB_lit _ rfl ?_ | refine z7 ?_); conv => whnf) | exact True.intro)))
  refine callL (containsRngs s.q.rungs t hr hl) [some 64] [] rfl ?_
  ((conv => whnf); (repeat (first | ((first | refine z1 ?_ | refine z2 ?_ | refine z3 ?_ | refine idxB_at (by decide) rfl ?_ | refine atB_at (by decide) (by decide) ?_ | refine getB_lit _ rfl ?_ | refine z7 ?_); conv => whnf) | exact True.intro)))
  refine .mk [] ?_
  ((conv => whnf); (repeat (first | ((first | refine z1 ?_ | refine z2 ?_ | refine z3 ?_ | refine idxB_at (by decide) rfl ?_ | refine atB_at (by decide) (by decide) ?_ | refine getB_lit _ rfl ?_ | refine z7 ?_); conv => whnf) | exact True.intro)))
theorem Sto.touch_fits {s : Sto} (hf : s.Fits) (th : Int) (l : List Nat) (hv : s.m.viol + l.length < 1000000000) : (s.touch th l).Fits := by
  obtain ⟨t1, t2, t3, t4, t5⟩ := touches_same th l s.m
  have := hf.mem.viol
  exact ⟨⟨by show (s.m.touches th l).log.length < _; rw [t3]; exact hf.mem.log, by show 0 ≤ (s.m.touches th l).viol ∧ (s.m.touches th l).viol < _; omega, by show (s.m.touches th l).words.length < _; rw [t1]; exact hf.mem.words, by show (s.m.touches th l).mtx.length < _; rw [t2]; exact hf.mem.mtx⟩, hf.slots, hf.idle, hf.next⟩
def Sto.accepts (s : Sto) (th t : Int) : Sto × Bool := (s.touch th [1], accQ s.q t)
theorem acceptsC (s : Sto) (th t : Int) (hf : s.Fits) (hm : 4 ≤ s.m.mtx.length) (hr : ∀ r ∈ s.q.rungs, r.Fits) (hl : s.q.rungs.length < 1000000) :
    LSpec Tryz.prog 22 [.p 0 10 0 0, V.int th, V.int t] (stoB s 2) 5 (V.bool (s.accepts th t).2) (stoB (s.accepts th t).1 2) 5 := by
  refine lspec tab_ok mix Tryz.func22 (by kernel_rfl) (by rfl) (by rfl) (by rfl) (by rfl) ?_
  ((conv => whnf); (repeat (first | ((first | refine z1 ?_ | refine z2 ?_ | refine z3 ?_ | refine idxB_at (by decide) rfl ?_ | refine atB_at (by decide) (by decide) ?_ | refine getB_lit _ rfl ?_ | refine z7 ?_); conv => whnf) | exact True.intro)))
  refine callL (guardC s th [1] hf (by decide) (by simp <;> omega)) [some 0, some 1, some 2, some 3, some 4] [] rfl ?_
  ((conv => whnf); (repeat (first | ((first | refine z1 ?_ | refine z2 ?_ | refine z3 ?_ | refine idxB_at (by decide) rfl ?_ | refine atB_at (by decide) (by decide) ?_ | refine getB_lit _ rfl ?_ | refine z7 ?_); conv => whnf) | exact True.intro)))
  refine callL (acceptsInC (s.touch th [1]) t hr hl) [some 0, some 1, some 2, some 3, some 4] [] rfl ?_
  ((conv => whnf); (repeat (first | ((first | refine z1 ?_ | refine z2 ?_ | refine z3 ?_ | refine idxB_at (by decide) rfl ?_ | refine atB_at (by decide) (by decide) ?_ | refine getB_lit _ rfl ?_ | refine z7 ?_); conv => whnf) | exact True.intro)))
  refine .mk [] ?_
  ((conv => whnf); (repeat (first | ((first | refine z1 ?_ | refine z2 ?_ | refine z3 ?_ | refine idxB_at (by decide) rfl ?_ | refine atB_at (by decide) (by decide) ?_ | refine getB_lit _ rfl ?_ | refine z7 ?_); conv => whnf) | exact True.intro)))
/-- the queue replaced, its start published -/
def Sto.replace (s : Sto) (th : Int) (q : Lad) : Sto := { s with m := if q.topStart = s.q.topStart then s.m else s.m.store th 0 q.topStart, q := q }
theorem replaceQC (s : Sto) (th : Int) (q : Lad) (hf : s.Fits) (hw : 0 < s.m.words.length) : LSpec Tryz.prog 135 [.p 0 10 0 0, V.int th, q.v] (stoB s 2) 5 (.tup []) (stoB (s.replace th q) 5) 6 := by
  unfold Sto.replace
  by_cases h : q.topStart = s.q.topStart
  · rw [if_pos h]
    refine lspec tab_ok mix Tryz.func135 (by kernel_rfl) (by rfl) (by rfl) (by rfl) (by rfl) ?_
    ((conv => whnf); (repeat (first | ((first | refine z1 ?_ | refine z2 ?_ | refine z3 ?_ | refine idxB_at (by decide) rfl ?_ | refine atB_at (by decide) (by decide) ?_ | refine getB_lit _ rfl ?_ | refine z7 ?_); conv => whnf) | exact True.intro)))
    rw [show (!decide (q.topStart = s.q.topStart)) = false by simp [h]]
    ((conv => whnf); (repeat (first | ((first | refine z1 ?_ | refine z2 ?_ | refine z3 ?_ | refine idxB_at (by decide) rfl ?_ | refine atB_at (by decide) (by decide) ?_ | refine getB_lit _ rfl ?_ | refine z7 ?_); conv => whnf) | exact True.intro)))
    refine .mk [(5, 2)] ?_
    ((conv => whnf); (repeat (first | ((first | refine z1 ?_ | refine z2 ?_ | refine z3 ?_ | refine idxB_at (by decide) rfl ?_ | refine atB_at (by decide) (by decide) ?_ | refine getB_lit _ rfl ?_ | refine z7 ?_); conv => whnf) | exact True.intro)))
  · rw [if_neg h]
    refine lspec tab_ok mix Tryz.func135 (by kernel_rfl) (by rfl) (by rfl) (by rfl) (by rfl) ?_
    ((conv => whnf); (repeat (first | ((first | refine z1 ?_ | refine z2 ?_ | refine z3 ?_ | refine idxB_at (by decide) rfl ?_ | refine atB_at (by decide) (by decide) ?_ | refine getB_lit _ rfl ?_ | refine z7 ?_); conv => whnf) | exact True.intro)))
    rw [show (!decide (q.topStart = s.q.topStart)) = true by simp [h]]
    ((conv => whnf); (repeat (first | ((first | refine z1 ?_ | refine z2 ?_ | refine z3 ?_ | refine idxB_at (by decide) rfl ?_ | refine atB_at (by decide) (by decide) ?_ | refine getB_lit _ rfl ?_ | refine z7 ?_); conv => whnf) | exact True.intro)))
    refine dcallL (storeC s.m th 0 q.topStart hw hf.mem) [some 1, some 2, some 3, some 4] [] ?_
    ((conv => whnf); (repeat (first | ((first | refine z1 ?_ | refine z2 ?_ | refine z3 ?_ | refine idxB_at (by decide) rfl ?_ | refine atB_at (by decide) (by decide) ?_ | refine getB_lit _ rfl ?_ | refine z7 ?_); conv => whnf) | exact True.intro)))
    refine .mk [(5, 1088)] ?_
    ((conv => whnf); (repeat (first | ((first | refine z1 ?_ | refine z2 ?_ | refine z3 ?_ | refine idxB_at (by decide) rfl ?_ | refine atB_at (by decide) (by decide) ?_ | refine getB_lit _ rfl ?_ | refine z7 ?_); conv => whnf) | exact True.intro)))
/-- what Peek and Drop do: q' is the queue behind -/
def Sto.take (s : Sto) (th : Int) (q : Lad) : Sto := (s.touch th [0, 1, 2]).replace th q
theorem takeC (s : Sto) (th : Int) {f : FuncId} {q : Lad} {it : Item} {ok : Bool} (hq : PSpec Tryz.prog f [s.q.v] (.tup [q.v, it.v, V.bool ok])) (hf : s.Fits) (hv : s.m.viol < 100000000) (hm : 4 ≤ s.m.mtx.length) (hw : 0 < s.m.words.length) :
    LSpec Tryz.prog 79 [.p 0 10 0 0, V.int th, .fn (.func f) [] []] (stoB s 2) 5 (.tup [it.v, V.bool ok]) (stoB (s.take th q) 5) 6 := by
  have hf1 := Sto.touch_fits hf th [0, 1, 2] (by simp; omega)
  have ht := touches_same th [0, 1, 2] s.m
  refine lspec tab_ok mix Tryz.func79 (by kernel_rfl) (by rfl) (by rfl) (by rfl) (by rfl) ?_
  ((conv => whnf); (repeat (first | ((first | refine z1 ?_ | refine z2 ?_ | refine z3 ?_ | refine idxB_at (by decide) rfl ?_ | refine atB_at (by decide) (by decide) ?_ | refine getB_lit _ rfl ?_ | refine z7 ?_); conv => whnf) | exact True.intro)))
  refine callL (guardC s th [0, 1, 2] hf (by decide) (by simp <;> omega)) [some 0, some 1, some 2, some 3, some 4] [] rfl ?_
  ((conv => whnf); (repeat (first | ((first | refine z1 ?_ | refine z2 ?_ | refine z3 ?_ | refine idxB_at (by decide) rfl ?_ | refine atB_at (by decide) (by decide) ?_ | refine getB_lit _ rfl ?_ | refine z7 ?_); conv => whnf) | exact True.intro)))
  refine callB hq ?_
  ((conv => whnf); (repeat (first | ((first | refine z1 ?_ | refine z2 ?_ | refine z3 ?_ | refine idxB_at (by decide) rfl ?_ | refine atB_at (by decide) (by decide) ?_ | refine getB_lit _ rfl ?_ | refine z7 ?_); conv => whnf) | exact True.intro)))
  refine callL (replaceQC (s.touch th [0, 1, 2]) th q hf1 (by show 0 < (s.m.touches th [0, 1, 2]).words.length; rw [ht.1]; exact hw)) [some 0, some 1, some 2, some 3, some 4] [] rfl ?_
  ((conv => whnf); (repeat (first | ((first | refine z1 ?_ | refine z2 ?_ | refine z3 ?_ | refine idxB_at (by decide) rfl ?_ | refine atB_at (by decide) (by decide) ?_ | refine getB_lit _ rfl ?_ | refine z7 ?_); conv => whnf) | exact True.intro)))
  refine .mk [(5, 1600)] ?_
  ((conv => whnf); (repeat (first | ((first | refine z1 ?_ | refine z2 ?_ | refine z3 ?_ | refine idxB_at (by decide) rfl ?_ | refine atB_at (by decide) (by decide) ?_ | refine getB_lit _ rfl ?_ | refine z7 ?_); conv => whnf) | exact True.intro)))
theorem peekSC (s : Sto) (th : Int) {q : Lad} {it : Item} {ok : Bool} (hq : PSpec Tryz.prog 80 [s.q.v] (.tup [q.v, it.v, V.bool ok])) (hf : s.Fits) (hv : s.m.viol < 100000000) (hm : 4 ≤ s.m.mtx.length) (hw : 0 < s.m.words.length) :
    LSpec Tryz.prog 23 [.p 0 10 0 0, V.int th] (stoB s 2) 5 (.tup [it.v, V.bool ok]) (stoB (s.take th q) 5) 6 := by
  refine lspec tab_ok mix Tryz.func23 (by kernel_rfl) (by rfl) (by rfl) (by rfl) (by rfl) ?_
  ((conv => whnf); (repeat (first | ((first | refine z1 ?_ | refine z2 ?_ | refine z3 ?_ | refine idxB_at (by decide) rfl ?_ | refine atB_at (by decide) (by decide) ?_ | refine getB_lit _ rfl ?_ | refine z7 ?_); conv => whnf) | exact True.intro)))
  refine callL (takeC s th hq hf hv hm hw) [some 0, some 1, some 2, some 3, some 4] [] rfl ?_
  ((conv => whnf); (repeat (first | ((first | refine z1 ?_ | refine z2 ?_ | refine z3 ?_ | refine idxB_at (by decide) rfl ?_ | refine atB_at (by decide) (by decide) ?_ | refine getB_lit _ rfl ?_ | refine z7 ?_); conv => whnf) | exact True.intro)))
  refine .mk [(5, 320)] ?_
  ((conv => whnf); (repeat (first | ((first | refine z1 ?_ | refine z2 ?_ | refine z3 ?_ | refine idxB_at (by decide) rfl ?_ | refine atB_at (by decide) (by decide) ?_ | refine getB_lit _ rfl ?_ | refine z7 ?_); conv => whnf) | exact True.intro)))
theorem dropSC (s : Sto) (th : Int) {q : Lad} {it : Item} {ok : Bool} (hq : PSpec Tryz.prog 97 [s.q.v] (.tup [q.v, it.v, V.bool ok])) (hf : s.Fits) (hv : s.m.viol < 100000000) (hm : 4 ≤ s.m.mtx.length) (hw : 0 < s.m.words.length) :
    LSpec Tryz.prog 34 [.p 0 10 0 0, V.int th] (stoB s 2) 5 (.tup []) (stoB (s.take th q) 5) 6 := by
  refine lspec tab_ok mix Tryz.func34 (by kernel_rfl) (by rfl) (by rfl) (by rfl) (by rfl) ?_
  ((conv => whnf); (repeat (first | ((first | refine z1 ?_ | refine z2 ?_ | refine z3 ?_ | refine idxB_at (by decide) rfl ?_ | refine atB_at (by decide) (by decide) ?_ | refine getB_lit _ rfl ?_ | refine z7 ?_); conv => whnf) | exact True.intro)))
  refine callL (takeC s th hq hf hv hm hw) [some 0, some 1, some 2, some 3, some 4] [] rfl ?_
  ((conv => whnf); (repeat (first | ((first | refine z1 ?_ | refine z2 ?_ | refine z3 ?_ | refine idxB_at (by decide) rfl ?_ | refine atB_at (by decide) (by decide) ?_ | refine getB_lit _ rfl ?_ | refine z7 ?_); conv => whnf) | exact True.intro)))
  refine .mk [(5, 192)] ?_
  ((conv => whnf); (repeat (first | ((first | refine z1 ?_ | refine z2 ?_ | refine z3 ?_ | refine idxB_at (by decide) rfl ?_ | refine atB_at (by decide) (by decide) ?_ | refine getB_lit _ rfl ?_ | refine z7 ?_); conv => whnf) | exact True.intro)))
def Sto.slot (s : Sto) (i : Nat) : Slt := (s.slots[i]?).getD ⟨0, 0, 0, 0⟩
theorem Sto.slot_get {s : Sto} {i : Nat} (h : i < s.slots.length) : s.slots[i]? = some (s.slot i) := by
  unfold Sto.slot
  rw [List.getElem?_eq_getElem h]; rfl
def Sto.putL (s : Sto) (t : Int) : List Nat := if s.q.topStart ≤ t then [0] else if accQ s.q t = true then [1] else [1, 2]
def Sto.item (s : Sto) (i : Nat) : Item := ⟨(s.slot i).time, (s.slot i).seq, i⟩
def Sto.put (s : Sto) (th : Int) (i : Nat) : Sto := { s.touch th (s.putL (s.slot i).time) with q := insLad s.q (s.item i) }
theorem putSC (s : Sto) (th : Int) (i : Nat) (h : i < s.slots.length) (hf : s.Fits) (hv : s.m.viol < 100000000) (hm : 4 ≤ s.m.mtx.length) (hr : ∀ r ∈ s.q.rungs, r.Fits) (hl : s.q.rungs.length < 1000000)
    (hq : PSpec Tryz.prog 95 [s.q.v, (s.item i).v] ((insLad s.q (s.item i)).v)) :
    LSpec Tryz.prog 32 [.p 0 10 0 0, V.int th, V.int i] (stoB s 2) 5 (.tup []) (stoB (s.put th i) 2) 5 := by
  have hg := Sto.slot_get h
  unfold Sto.put Sto.putL
  by_cases g : s.q.topStart ≤ (s.slot i).time
  · rw [if_pos g]
    refine lspec tab_ok mix Tryz.func32 (by kernel_rfl) (by rfl) (by rfl) (by rfl) (by rfl) ?_
    ((conv => whnf); (repeat (first | ((first | refine z1 ?_ | refine z2 ?_ | refine z3 ?_ | refine idxB_at (by decide) rfl ?_ | refine atB_at (by decide) (by decide) ?_ | refine getB_lit _ rfl ?_ | refine z7 ?_); conv => whnf) | exact True.intro)))
    refine idxB hg ?_
    ((conv => whnf); (repeat (first | ((first | refine z1 ?_ | refine z2 ?_ | refine z3 ?_ | refine idxB_at (by decide) rfl ?_ | refine atB_at (by decide) (by decide) ?_ | refine getB_lit _ rfl ?_ | refine z7 ?_); conv => whnf) | exact True.intro)))
    rw [decide_eq_true g]
    ((conv => whnf); (repeat (first | ((first | refine z1 ?_ | refine z2 ?_ | refine z3 ?_ | refine idxB_at (by decide) rfl ?_ | refine atB_at (by decide) (by decide) ?_ | refine getB_lit _ rfl ?_ | refine z7 ?_); conv => whnf) | exact True.intro)))
    refine callL (guardC s th [0] hf (by decide) (by simp <;> omega)) [some 0, some 1, some 2, some 3, some 4] [] rfl ?_
    ((conv => whnf); (repeat (first | ((first | refine z1 ?_ | refine z2 ?_ | refine z3 ?_ | refine idxB_at (by decide) rfl ?_ | refine atB_at (by decide) (by decide) ?_ | refine getB_lit _ rfl ?_ | refine z7 ?_); conv => whnf) | exact True.intro)))
    refine dcallB hq ?_
    ((conv => whnf); (repeat (first | ((first | refine z1 ?_ | refine z2 ?_ | refine z3 ?_ | refine idxB_at (by decide) rfl ?_ | refine atB_at (by decide) (by decide) ?_ | refine getB_lit _ rfl ?_ | refine z7 ?_); conv => whnf) | exact True.intro)))
    refine .mk [] ?_
    ((conv => whnf); (repeat (first | ((first | refine z1 ?_ | refine z2 ?_ | refine z3 ?_ | refine idxB_at (by decide) rfl ?_ | refine atB_at (by decide) (by decide) ?_ | refine getB_lit _ rfl ?_ | refine z7 ?_); conv => whnf) | exact True.intro)))
  · rw [if_neg g]
    cases hx : accQ s.q (s.slot i).time with
    | true =>
      rw [if_pos rfl]
      refine lspec tab_ok mix Tryz.func32 (by kernel_rfl) (by rfl) (by rfl) (by rfl) (by rfl) ?_
      ((conv => whnf); (repeat (first | ((first | refine z1 ?_ | refine z2 ?_ | refine z3 ?_ | refine idxB_at (by decide) rfl ?_ | refine atB_at (by decide) (by decide) ?_ | refine getB_lit _ rfl ?_ | refine z7 ?_); conv => whnf) | exact True.intro)))
      refine idxB hg ?_
      ((conv => whnf); (repeat (first | ((first | refine z1 ?_ | refine z2 ?_ | refine z3 ?_ | refine idxB_at (by decide) rfl ?_ | refine atB_at (by decide) (by decide) ?_ | refine getB_lit _ rfl ?_ | refine z7 ?_); conv => whnf) | exact True.intro)))
      rw [decide_eq_false g]
      ((conv => whnf); (repeat (first | ((first | refine z1 ?_ | refine z2 ?_ | refine z3 ?_ | refine idxB_at (by decide) rfl ?_ | refine atB_at (by decide) (by decide) ?_ | refine getB_lit _ rfl ?_ | refine z7 ?_); conv => whnf) | exact True.intro)))
      refine callL (acceptsInC s (s.slot i).time hr hl) [some 0, some 1, some 2, some 3, some 4] [] rfl ?_
      ((conv => whnf); (repeat (first | ((first | refine z1 ?_ | refine z2 ?_ | refine z3 ?_ | refine idxB_at (by decide) rfl ?_ | refine atB_at (by decide) (by decide) ?_ | refine getB_lit _ rfl ?_ | refine z7 ?_); conv => whnf) | exact True.intro)))
      rw [hx]
      ((conv => whnf); (repeat (first | ((first | refine z1 ?_ | refine z2 ?_ | refine z3 ?_ | refine idxB_at (by decide) rfl ?_ | refine atB_at (by decide) (by decide) ?_ | refine getB_lit _ rfl ?_ | refine z7 ?_); conv => whnf) | exact True.intro)))
      refine callL (guardC s th [1] hf (by decide) (by simp <;> omega)) [some 0, some 1, some 2, some 3, some 4] [] rfl ?_
      ((conv => whnf); (repeat (first | ((first | refine z1 ?_ | refine z2 ?_ | refine z3 ?_ | refine idxB_at (by decide) rfl ?_ | refine atB_at (by decide) (by decide) ?_ | refine getB_lit _ rfl ?_ | refine z7 ?_); conv => whnf) | exact True.intro)))
      refine dcallB hq ?_
      ((conv => whnf); (repeat (first | ((first | refine z1 ?_ | refine z2 ?_ | refine z3 ?_ | refine idxB_at (by decide) rfl ?_ | refine atB_at (by decide) (by decide) ?_ | refine getB_lit _ rfl ?_ | refine z7 ?_); conv => whnf) | exact True.intro)))
      refine .mk [] ?_
      ((conv => whnf); (repeat (first | ((first | refine z1 ?_ | refine z2 ?_ | refine z3 ?_ | refine idxB_at (by decide) rfl ?_ | refine atB_at (by decide) (by decide) ?_ | refine getB_lit _ rfl ?_ | refine z7 ?_); conv => whnf) | exact True.intro)))
    | false =>
      rw [if_neg (by simp)]
      refine lspec tab_ok mix Tryz.func32 (by kernel_rfl) (by rfl) (by rfl) (by rfl) (by rfl) ?_
      ((conv => whnf); (repeat (first | ((first | refine z1 ?_ | refine z2 ?_ | refine z3 ?_ | refine idxB_at (by decide) rfl ?_ | refine atB_at (by decide) (by decide) ?_ | refine getB_lit _ rfl ?_ | refine z7 ?_); conv => whnf) | exact True.intro)))
      refine idxB hg ?_
      ((conv => whnf); (repeat (first | ((first | refine z1 ?_ | refine z2 ?_ | refine z3 ?_ | refine idxB_at (by decide) rfl ?_ | refine atB_at (by decide) (by decide) ?_ | refine getB_lit _ rfl ?_ | refine z7 ?_); conv => whnf) | exact True.intro)))
      rw [decide_eq_false g]
      ((conv => whnf); (repeat (first | ((first | refine z1 ?_ | refine z2 ?_ | refine z3 ?_ | refine idxB_at (by decide) rfl ?_ | refine atB_at (by decide) (by decide) ?_ | refine getB_lit _ rfl ?_ | refine z7 ?_); conv => whnf) | exact True.intro)))
      refine callL (acceptsInC s (s.slot i).time hr hl) [some 0, some 1, some 2, some 3, some 4] [] rfl ?_
      ((conv => whnf); (repeat (first | ((first | refine z1 ?_ | refine z2 ?_ | refine z3 ?_ | refine idxB_at (by decide) rfl ?_ | refine atB_at (by decide) (by decide) ?_ | refine getB_lit _ rfl ?_ | refine z7 ?_); conv => whnf) | exact True.intro)))
      rw [hx]
      ((conv => whnf); (repeat (first | ((first | refine z1 ?_ | refine z2 ?_ | refine z3 ?_ | refine idxB_at (by decide) rfl ?_ | refine atB_at (by decide) (by decide) ?_ | refine getB_lit _ rfl ?_ | refine z7 ?_); conv => whnf) | exact True.intro)))
      refine callL (guardC s th [1, 2] hf (by decide) (by simp <;> omega)) [some 0, some 1, some 2, some 3, some 4] [] rfl ?_
      ((conv => whnf); (repeat (first | ((first | refine z1 ?_ | refine z2 ?_ | refine z3 ?_ | refine idxB_at (by decide) rfl ?_ | refine atB_at (by decide) (by decide) ?_ | refine getB_lit _ rfl ?_ | refine z7 ?_); conv => whnf) | exact True.intro)))
      refine dcallB hq ?_
      ((conv => whnf); (repeat (first | ((first | refine z1 ?_ | refine z2 ?_ | refine z3 ?_ | refine idxB_at (by decide) rfl ?_ | refine atB_at (by decide) (by decide) ?_ | refine getB_lit _ rfl ?_ | refine z7 ?_); conv => whnf) | exact True.intro)))
      refine .mk [] ?_
      ((conv => whnf); (repeat (first | ((first | refine z1 ?_ | refine z2 ?_ | refine z3 ?_ | refine idxB_at (by decide) rfl ?_ | refine atB_at (by decide) (by decide) ?_ | refine getB_lit _ rfl ?_ | refine z7 ?_); conv => whnf) | exact True.intro)))
end Go.Proofs.YtajgcanfngcfhaaGreat.Abs
