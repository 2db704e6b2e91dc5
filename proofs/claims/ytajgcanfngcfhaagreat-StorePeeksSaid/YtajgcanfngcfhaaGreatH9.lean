/- The store: its items, in order, and a picture of its arena. -/
import Derived.Test.YtajgcanfngcfhaaGreatH7
import Derived.Test.YtajgcanfngcfhaaGreatH8
namespace Go.Proofs.YtajgcanfngcfhaaGreat.Abs
open Go.Proofs
set_option maxRecDepth 10000
set_option linter.unusedSimpArgs false
set_option linter.unusedVariables false
theorem wrUn {n : Int} {K : Int → Prop} (h : 0 ≤ n ∧ n ≤ 9223372036854775807) (k : K n) : WrB .u64 n K := ⟨by
  have e : wr .u64 n = n := by
    have e : wr .u64 n = IntKind.wrap .u64 n := rfl
    rw [e, IntKind.wrap_u64]; omega
  rw [e]; exact k⟩
theorem pdqC (R : List Item) (lim : Int) (hl : R.length ≤ 12) : LSpec Tryz.prog 141 [.ac 0 3 R.length, V.int 0, V.int R.length, V.int lim, cmpF] [(0, .dat 3 (R.map Item.row))] 1 (.tup []) [(0, .dat 3 ((ssort cmpEv R).map Item.row))] 1 := by
  have hi := insertionAt [] R [] 0 R.length R.length rfl (by simp) (by simp) (by omega) (fun _ _ => trivial)
  simp only [List.nil_append, List.append_nil] at hi
  refine lspec tab_ok mix Tryz.func141 (by kernel_rfl) (by rfl) (by rfl) (by rfl) (by rfl) ?_
  ((conv => whnf); (repeat (first | ((first | refine z1 ?_ | refine z2 ?_ | refine z3 ?_ | refine idxB_at (by decide) rfl ?_ | refine atB_at (by decide) (by decide) ?_ | refine getB_lit _ rfl ?_ | refine z7 ?_); conv => whnf) | exact True.intro)))
  refine loopB_rounds tab_ok mix 1 (by decide) ?_
  ((conv => whnf); (repeat (first | ((first | refine z1 ?_ | refine z2 ?_ | refine z3 ?_ | refine idxB_at (by decide) rfl ?_ | refine atB_at (by decide) (by decide) ?_ | refine getB_lit _ rfl ?_ | refine z7 ?_); conv => whnf) | exact True.intro)))
  rw [show decide ((R.length : Int) - 0 ≤ 12) = true from decide_eq_true (by omega)]
  ((conv => whnf); (repeat (first | ((first | refine z1 ?_ | refine z2 ?_ | refine z3 ?_ | refine idxB_at (by decide) rfl ?_ | refine atB_at (by decide) (by decide) ?_ | refine getB_lit _ rfl ?_ | refine z7 ?_); conv => whnf) | exact True.intro)))
  refine callL hi [some 0] [] rfl ?_
  ((conv => whnf); (repeat (first | ((first | refine z1 ?_ | refine z2 ?_ | refine z3 ?_ | refine idxB_at (by decide) rfl ?_ | refine atB_at (by decide) (by decide) ?_ | refine getB_lit _ rfl ?_ | refine z7 ?_); conv => whnf) | exact True.intro)))
  refine .mk [] ?_
  ((conv => whnf); (repeat (first | ((first | refine z1 ?_ | refine z2 ?_ | refine z3 ?_ | refine idxB_at (by decide) rfl ?_ | refine atB_at (by decide) (by decide) ?_ | refine getB_lit _ rfl ?_ | refine z7 ?_); conv => whnf) | exact True.intro)))
theorem sortFuncC (R : List Item) (hl : R.length ≤ 12) : LSpec Tryz.prog 90 [.ac 0 3 R.length, cmpF] [(0, .dat 3 (R.map Item.row))] 1 (.tup []) [(0, .dat 3 ((ssort cmpEv R).map Item.row))] 1 := by
  obtain ⟨r, hr⟩ := lenC64 R.length hl
  refine lspec tab_ok mix Tryz.func90 (by kernel_rfl) (by rfl) (by rfl) (by rfl) (by rfl) ?_
  ((conv => whnf); (repeat (first | ((first | refine z1 ?_ | refine z2 ?_ | refine z3 ?_ | refine idxB_at (by decide) rfl ?_ | refine atB_at (by decide) (by decide) ?_ | refine getB_lit _ rfl ?_ | refine z7 ?_); conv => whnf) | exact True.intro)))
  refine wrUn (by omega) ?_
  ((conv => whnf); (repeat (first | ((first | refine z1 ?_ | refine z2 ?_ | refine z3 ?_ | refine idxB_at (by decide) rfl ?_ | refine atB_at (by decide) (by decide) ?_ | refine getB_lit _ rfl ?_ | refine z7 ?_); conv => whnf) | exact True.intro)))
  refine callB hr ?_
  ((conv => whnf); (repeat (first | ((first | refine z1 ?_ | refine z2 ?_ | refine z3 ?_ | refine idxB_at (by decide) rfl ?_ | refine atB_at (by decide) (by decide) ?_ | refine getB_lit _ rfl ?_ | refine z7 ?_); conv => whnf) | exact True.intro)))
  refine callL (pdqC R r hl) [some 0] [] rfl ?_
  ((conv => whnf); (repeat (first | ((first | refine z1 ?_ | refine z2 ?_ | refine z3 ?_ | refine idxB_at (by decide) rfl ?_ | refine atB_at (by decide) (by decide) ?_ | refine getB_lit _ rfl ?_ | refine z7 ?_); conv => whnf) | exact True.intro)))
  refine .mk [] ?_
  ((conv => whnf); (repeat (first | ((first | refine z1 ?_ | refine z2 ?_ | refine z3 ?_ | refine idxB_at (by decide) rfl ?_ | refine atB_at (by decide) (by decide) ?_ | refine getB_lit _ rfl ?_ | refine z7 ?_); conv => whnf) | exact True.intro)))
theorem itemsC (s : Sto) (hl : s.q.items.length ≤ 12) (hsm : s.q.Small) : LSpec Tryz.prog 26 [.p 0 10 0 0] (stoB s 2) 5 (itemsV (ssort cmpEv s.q.items)) (stoB s 2) 5 := by
  have hle := accL_len s.q
  have hlen := hsm.len
  have hrl := hsm.rungs
  have htb : (s.q.top ++ s.q.bottom).length < 1000000 := by
    have := hle 0
    unfold accL at this
    simp at this ⊢; omega
  have hcat : ([s.q.top, s.q.bottom] : List (List Item)).flatten = s.q.top ++ s.q.bottom := by simp
  have h0 : accL s.q 0 = s.q.top ++ s.q.bottom := by unfold accL; simp
  have hn : ∀ (i : Nat) (r : Rng), s.q.rungs[i]? = some r → accL s.q (i + 1) = accL s.q i ++ r.items := fun i r hr => accL_next hr
  have hend := accL_end s.q
  generalize accL s.q = acc at *
  refine lspec tab_ok mix Tryz.func26 (by kernel_rfl) (by rfl) (by rfl) (by rfl) (by rfl) ?_
  ((conv => whnf); (repeat (first | ((first | refine z1 ?_ | refine z2 ?_ | refine z3 ?_ | refine idxB_at (by decide) rfl ?_ | refine atB_at (by decide) (by decide) ?_ | refine getB_lit _ rfl ?_ | refine z7 ?_); conv => whnf) | exact True.intro)))
  refine dcallL (concatC [s.q.top, s.q.bottom] (by simp) (by rw [hcat]; exact htb)) [] [] ?_
  rw [hcat]
  ((conv => whnf); (repeat (first | ((first | refine z1 ?_ | refine z2 ?_ | refine z3 ?_ | refine idxB_at (by decide) rfl ?_ | refine atB_at (by decide) (by decide) ?_ | refine getB_lit _ rfl ?_ | refine z7 ?_); conv => whnf) | exact True.intro)))
  refine loopB tab_ok mix [22, 23] [0, 1, 2, 3, 4] (fun i : Nat => [(3, .ac 5 3 (acc i).length), (24, V.int i)]) (fun i => [(5, .dat 3 ((acc i).map Item.row))]) (fun i => i ≤ s.q.rungs.length) (fun i => s.q.rungs.length - i) [(5, 832)] 0 rfl (by omega) (by rw [h0]; ((conv => whnf); (repeat (first | ((first | refine z1 ?_ | refine z2 ?_ | refine z3 ?_ | refine idxB_at (by decide) rfl ?_ | refine atB_at (by decide) (by decide) ?_ | refine getB_lit _ rfl ?_ | refine z7 ?_); conv => whnf) | exact True.intro)))) ?_
  rintro i hi
  have hli := hle i
  ((conv => whnf); (repeat (first | ((first | refine z1 ?_ | refine z2 ?_ | refine z3 ?_ | refine idxB_at (by decide) rfl ?_ | refine atB_at (by decide) (by decide) ?_ | refine getB_lit _ rfl ?_ | refine z7 ?_); conv => whnf) | exact True.intro)))
  refine br_dec (fun g => ?_) (fun g => ?_) <;> ((conv => whnf); (repeat (first | ((first | refine z1 ?_ | refine z2 ?_ | refine z3 ?_ | refine idxB_at (by decide) rfl ?_ | refine atB_at (by decide) (by decide) ?_ | refine getB_lit _ rfl ?_ | refine z7 ?_); conv => whnf) | exact True.intro)))
  · have g' : i < s.q.rungs.length := by simpa using g
    obtain ⟨r, hr⟩ := get_lt g'
    have hm := List.mem_of_getElem? hr
    have hni := hn i r hr
    have hl2 := hle (i + 1)
    rw [hni, List.length_append] at hl2
    refine idxB hr ?_
    ((conv => whnf); (repeat (first | ((first | refine z1 ?_ | refine z2 ?_ | refine z3 ?_ | refine idxB_at (by decide) rfl ?_ | refine atB_at (by decide) (by decide) ?_ | refine getB_lit _ rfl ?_ | refine z7 ?_); conv => whnf) | exact True.intro)))
    refine callL (concatC r.bkts (hsm.each r hm) (small_rung hsm hm)) [] [] rfl ?_
    ((conv => whnf); (repeat (first | ((first | refine z1 ?_ | refine z2 ?_ | refine z3 ?_ | refine idxB_at (by decide) rfl ?_ | refine atB_at (by decide) (by decide) ?_ | refine getB_lit _ rfl ?_ | refine z7 ?_); conv => whnf) | exact True.intro)))
    rw [show r.bkts.flatten = r.items from rfl]
    refine cb (by simp) ?_
    ((conv => whnf); (repeat (first | ((first | refine z1 ?_ | refine z2 ?_ | refine z3 ?_ | refine idxB_at (by decide) rfl ?_ | refine atB_at (by decide) (by decide) ?_ | refine getB_lit _ rfl ?_ | refine z7 ?_); conv => whnf) | exact True.intro)))
    refine .mk [(5, 1984)] (i + 1) (by omega) (by omega) ?_
    rw [hni]
    ((conv => whnf); (repeat (first | ((first | refine z1 ?_ | refine z2 ?_ | refine z3 ?_ | refine idxB_at (by decide) rfl ?_ | refine atB_at (by decide) (by decide) ?_ | refine getB_lit _ rfl ?_ | refine z7 ?_); conv => whnf) | exact True.intro)))
  · have e : i = s.q.rungs.length := by simp at g; omega
    subst e
    rw [hend]
    refine callL (sortFuncC s.q.items hl) [some 5] [] rfl ?_
    ((conv => whnf); (repeat (first | ((first | refine z1 ?_ | refine z2 ?_ | refine z3 ?_ | refine idxB_at (by decide) rfl ?_ | refine atB_at (by decide) (by decide) ?_ | refine getB_lit _ rfl ?_ | refine z7 ?_); conv => whnf) | exact True.intro)))
    refine .mk [] ?_
    ((conv => whnf); (repeat (first | ((first | refine z1 ?_ | refine z2 ?_ | refine z3 ?_ | refine idxB_at (by decide) rfl ?_ | refine atB_at (by decide) (by decide) ?_ | refine getB_lit _ rfl ?_ | refine z7 ?_); conv => whnf) | exact True.intro)))
    refine cb ⟨by rw [List.length_map, ssort_len cmpEvC], rfl⟩ ?_
    ((conv => whnf); (repeat (first | ((first | refine z1 ?_ | refine z2 ?_ | refine z3 ?_ | refine idxB_at (by decide) rfl ?_ | refine atB_at (by decide) (by decide) ?_ | refine getB_lit _ rfl ?_ | refine z7 ?_); conv => whnf) | exact True.intro)))
/-- the slots as a picture shows them: generations and states out of the words -/
def Sto.pic (s : Sto) (p : Nat) : Slt := ⟨s.m.word (p + 1) / 4, s.m.word (p + 1) % 4, (s.slot p).time, (s.slot p).seq⟩
def Sto.pics (s : Sto) : List Slt := (List.range s.slots.length).map s.pic
/-- the first i of them -/
def Sto.picK (s : Sto) (i : Nat) : List Slt := (List.range s.slots.length).map fun p => if p < i then s.pic p else s.slot p
theorem Sto.picK_len (s : Sto) (i : Nat) : (s.picK i).length = s.slots.length := by simp [Sto.picK]
theorem Sto.picK_get (s : Sto) (i : Nat) {p : Nat} (h : p < s.slots.length) : (s.picK i)[p]? = some (if p < i then s.pic p else s.slot p) := by
  unfold Sto.picK
  rw [List.getElem?_map, List.getElem?_range h]; rfl
theorem Sto.picK_zero (s : Sto) : s.picK 0 = s.slots := by
  apply List.ext_getElem?
  intro p
  by_cases h : p < s.slots.length
  · rw [s.picK_get 0 h, if_neg (by omega), Sto.slot_get h]
  · rw [List.getElem?_eq_none (by rw [s.picK_len]; omega), List.getElem?_eq_none (by omega)]
theorem Sto.picK_end (s : Sto) : s.picK s.slots.length = s.pics := by
  unfold Sto.picK Sto.pics
  refine List.map_congr_left fun p hp => ?_
  rw [if_pos (List.mem_range.1 hp)]
theorem Sto.picK_next (s : Sto) {i : Nat} (h : i < s.slots.length) : (s.picK i).set i (s.pic i) = s.picK (i + 1) := by
  apply List.ext_getElem?
  intro p
  by_cases hp : p < s.slots.length
  · rw [s.picK_get (i + 1) hp, List.getElem?_set, s.picK_len, s.picK_get i hp]
    by_cases e : i = p
    · rw [if_pos e, if_pos (by omega), if_pos (by omega), e]
    · rw [if_neg e]
      by_cases c : p < i
      · rw [if_pos c, if_pos (by omega)]
      · rw [if_neg c, if_neg (by omega)]
  · rw [List.getElem?_eq_none (by simp [s.picK_len]; omega), List.getElem?_eq_none (by rw [s.picK_len]; omega)]
def arenaV (slots : List Slt) (idle : List Int) (next : Int) : V := .agg [sltsV slots, intsV idle, V.int next]
theorem arenaC (s : Sto) (hf : s.Fits) (hw : s.slots.length < s.m.words.length) (hv : ∀ p, p < s.slots.length → 0 ≤ s.m.word (p + 1) ∧ s.m.word (p + 1) ≤ 2305843009213693952) :
    LSpec Tryz.prog 25 [.p 0 10 0 0] (stoB s 2) 5 (arenaV s.pics s.idle s.next) (stoB s 2) 5 := by
  have hsl := hf.slots
  have h0 := s.picK_zero
  refine lspec tab_ok mix Tryz.func25 (by kernel_rfl) (by rfl) (by rfl) (by rfl) (by rfl) ?_
  ((conv => whnf); (repeat (first | ((first | refine z1 ?_ | refine z2 ?_ | refine z3 ?_ | refine idxB_at (by decide) rfl ?_ | refine atB_at (by decide) (by decide) ?_ | refine getB_lit _ rfl ?_ | refine z7 ?_); conv => whnf) | exact True.intro)))
  refine callL (cloneSlts s.slots (by omega)) [] [] rfl ?_
  ((conv => whnf); (repeat (first | ((first | refine z1 ?_ | refine z2 ?_ | refine z3 ?_ | refine idxB_at (by decide) rfl ?_ | refine atB_at (by decide) (by decide) ?_ | refine getB_lit _ rfl ?_ | refine z7 ?_); conv => whnf) | exact True.intro)))
  refine loopB tab_ok mix [0, 2, 3, 16] [0, 1, 2, 3, 4, 64, 384] (fun i : Nat => [(17, V.int i)]) (fun i => [(640, .dat 4 ((s.picK i).map Slt.row))]) (fun i => i ≤ s.slots.length) (fun i => s.slots.length - i) [] 0 rfl (by omega) (by rw [h0]; ((conv => whnf); (repeat (first | ((first | refine z1 ?_ | refine z2 ?_ | refine z3 ?_ | refine idxB_at (by decide) rfl ?_ | refine atB_at (by decide) (by decide) ?_ | refine getB_lit _ rfl ?_ | refine z7 ?_); conv => whnf) | exact True.intro)))) ?_
  rintro i hi
  ((conv => whnf); (repeat (first | ((first | refine z1 ?_ | refine z2 ?_ | refine z3 ?_ | refine idxB_at (by decide) rfl ?_ | refine atB_at (by decide) (by decide) ?_ | refine getB_lit _ rfl ?_ | refine z7 ?_); conv => whnf) | exact True.intro)))
  refine br_dec (fun u => ?_) (fun u => ?_) <;> ((conv => whnf); (repeat (first | ((first | refine z1 ?_ | refine z2 ?_ | refine z3 ?_ | refine idxB_at (by decide) rfl ?_ | refine atB_at (by decide) (by decide) ?_ | refine getB_lit _ rfl ?_ | refine z7 ?_); conv => whnf) | exact True.intro)))
  · have u' : i < s.slots.length := by omega
    have hgi := s.picK_get i u'
    rw [if_neg (by omega)] at hgi
    have hnx := s.picK_next u'
    have hvi := hv i u'
    rw [show (1 + (i : Int)) = ((i + 1 : Nat) : Int) by omega]
    refine callL (wordAtC s.m (i + 1) (by omega) hf.mem) [some 1, some 2, some 3, some 4] [] rfl ?_
    ((conv => whnf); (repeat (first | ((first | refine z1 ?_ | refine z2 ?_ | refine z3 ?_ | refine idxB_at (by decide) rfl ?_ | refine atB_at (by decide) (by decide) ?_ | refine getB_lit _ rfl ?_ | refine z7 ?_); conv => whnf) | exact True.intro)))
    refine dcallB (genC (s.m.word (i + 1))) ?_
    ((conv => whnf); (repeat (first | ((first | refine z1 ?_ | refine z2 ?_ | refine z3 ?_ | refine idxB_at (by decide) rfl ?_ | refine atB_at (by decide) (by decide) ?_ | refine getB_lit _ rfl ?_ | refine z7 ?_); conv => whnf) | exact True.intro)))
    refine dcallB (stateC (s.m.word (i + 1)) hvi) ?_
    ((conv => whnf); (repeat (first | ((first | refine z1 ?_ | refine z2 ?_ | refine z3 ?_ | refine idxB_at (by decide) rfl ?_ | refine atB_at (by decide) (by decide) ?_ | refine getB_lit _ rfl ?_ | refine z7 ?_); conv => whnf) | exact True.intro)))
    refine atB u' ?_
    ((conv => whnf); (repeat (first | ((first | refine z1 ?_ | refine z2 ?_ | refine z3 ?_ | refine idxB_at (by decide) rfl ?_ | refine atB_at (by decide) (by decide) ?_ | refine getB_lit _ rfl ?_ | refine z7 ?_); conv => whnf) | exact True.intro)))
    refine getB hgi ?_
    ((conv => whnf); (repeat (first | ((first | refine z1 ?_ | refine z2 ?_ | refine z3 ?_ | refine idxB_at (by decide) rfl ?_ | refine atB_at (by decide) (by decide) ?_ | refine getB_lit _ rfl ?_ | refine z7 ?_); conv => whnf) | exact True.intro)))
    refine atB u' ?_
    ((conv => whnf); (repeat (first | ((first | refine z1 ?_ | refine z2 ?_ | refine z3 ?_ | refine idxB_at (by decide) rfl ?_ | refine atB_at (by decide) (by decide) ?_ | refine getB_lit _ rfl ?_ | refine z7 ?_); conv => whnf) | exact True.intro)))
    refine getB_lit [.c (.int .i64 (s.m.word (i + 1) / 4)), .c (.int .i64 (s.slot i).state), .c (.int .i64 (s.slot i).time), .c (.int .i64 (s.slot i).seq)] (by simp [s.picK_len, u']) ?_
    ((conv => whnf); (repeat (first | ((first | refine z1 ?_ | refine z2 ?_ | refine z3 ?_ | refine idxB_at (by decide) rfl ?_ | refine atB_at (by decide) (by decide) ?_ | refine getB_lit _ rfl ?_ | refine z7 ?_); conv => whnf) | exact True.intro)))
    refine .mk [] (i + 1) (by omega) (by omega) ?_
    rw [← hnx]
    ((conv => whnf); (repeat (first | ((first | refine z1 ?_ | refine z2 ?_ | refine z3 ?_ | refine idxB_at (by decide) rfl ?_ | refine atB_at (by decide) (by decide) ?_ | refine getB_lit _ rfl ?_ | refine z7 ?_); conv => whnf) | exact True.intro)))
    exact cb (by rw [List.set_set, List.map_set]; rfl) (by ((conv => whnf); (repeat (first | ((first | refine z1 ?_ | refine z2 ?_ | refine z3 ?_ | refine idxB_at (by decide) rfl ?_ | refine atB_at (by decide) (by decide) ?_ | refine getB_lit _ rfl ?_ | refine z7 ?_); conv => whnf) | exact True.intro))))
  · have e : i = s.slots.length := by omega
    subst e
    rw [s.picK_end]
    refine .mk [] ?_
    ((conv => whnf); (repeat (first | ((first | refine z1 ?_ | refine z2 ?_ | refine z3 ?_ | refine idxB_at (by decide) rfl ?_ | refine atB_at (by decide) (by decide) ?_ | refine getB_lit _ rfl ?_ | refine z7 ?_); conv => whnf) | exact True.intro)))
    refine cb ⟨by simp [Sto.pics], rfl⟩ ?_
    ((conv => whnf); (repeat (first | ((first | refine z1 ?_ | refine z2 ?_ | refine z3 ?_ | refine idxB_at (by decide) rfl ?_ | refine atB_at (by decide) (by decide) ?_ | refine getB_lit _ rfl ?_ | refine z7 ?_); conv => whnf) | exact True.intro)))
end Go.Proofs.YtajgcanfngcfhaaGreat.Abs
