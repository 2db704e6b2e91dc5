/- The abstract machine, part 9: append; all operations in one theorem. -/
import Derived.Test.YtmihhkcbbdpnaaaA8
namespace Go.Proofs.Ytmihhkcbbdpnaaa.Abs
section
variable {P : Program} {tab : Tab}

def stAt (base : Option Addr) (k : Nat) (l : List Value) : Sem Unit :=
  match base with
  | some b => storeCells (b.add k) l
  | none => pure ()
/-- what append does in a world: room is there, or a new array is made -/
theorem append_run (ht : TabOk P tab) {t t' T e : TypeId} {τ τ' ε : Ty} (hτ : tab t = some τ) (hk : τ.kind = .slice e) (he : tab e = some ε) (hτ' : tab t' = some τ') (hk' : ∃ e', τ'.kind = .slice e') {w : World}
    {base : Option Addr} {sLen sCap n : Nat} {a : Option Addr} {c : Nat} (hb : ε.bytes ≤ 4096) (hneed : sLen + n < 2147483648) :
    (sLen + n ≤ sCap → ∀ arr : Array Value, (Builtin.firstCells ε.size n (.slice a n c)).run P w = .ok arr w → (Builtin.append_ #[t, t'] T #[.slice base sLen sCap, .slice a n c]).run P w = ((stAt base (sLen * ε.size) arr.toList).run P w).andThen fun _ w' => .ok (.slice base (sLen + n) sCap) w') ∧
    (¬ sLen + n ≤ sCap → ∃ newCap, sLen + n ≤ newCap ∧ ∀ old arr : Array Value, (Builtin.firstCells ε.size sLen (.slice base sLen sCap)).run P w.drew = .ok old w.drew → (Builtin.firstCells ε.size n (.slice a n c)).run P w.drew = .ok arr w.drew →
      ∃ rest : Array Value, rest.size = (newCap - (sLen + n)) * ε.size ∧
        (Builtin.append_ #[t, t'] T #[.slice base sLen sCap, .slice a n c]).run P w = .ok (.slice (some ⟨w.heap.size, 0, none⟩) (sLen + n) newCap) (w.drew.alloc (.cells (old ++ arr ++ rest) e))) := by
  have hd := slice_desc ht hτ hk
  have hez := (ht e ε he).sizeOf
  have hi := fun w => (ht e ε he).typeInfo w
  obtain ⟨e', hk'⟩ := hk'
  have hd' := slice_desc ht hτ' hk'
  refine ⟨fun hle arr this => ?_, fun hgt => ?_⟩
  ·     cases base <;> simp [stAt, Builtin.append_, hd, hd', hez, Builtin.lenOf, hle, this]
  · obtain ⟨z, hz, hzc⟩ := (ht e ε he).zero w.drew
    have hzl := (ht e ε he).zlen
    obtain ⟨i, hi1, hi2⟩ := hi w
    obtain ⟨i', hi1', hi2'⟩ := hi w.drew
    have hsz : ¬ 281474976710656 < Builtin.nextslicecap (sLen + n) sCap * i.bytes := by
      have h1 := nextslicecap_le (need := sLen + n) (cap := sCap) (by omega)
      have h2 : Builtin.nextslicecap (sLen + n) sCap * i.bytes ≤ (2 * (sLen + n) + 192) * 4096 := Nat.mul_le_mul h1 (by omega)
      omega
    have hmx : ¬ (9223372036854775807 : Int) < (sLen : Int) + n := by omega
    have hforced : (Question.appendCap (sLen + n) sCap e).forced = false := rfl
    refine ⟨(Question.appendCap (sLen + n) sCap e).cut (w.tape w.drawn (.appendCap (sLen + n) sCap e)), by simp only [Question.cut]; omega, fun old arr hold hs2 => ?_⟩
    refine ⟨Builtin.zeroCells z.cells ((Question.appendCap (sLen + n) sCap e).cut (w.tape w.drawn (.appendCap (sLen + n) sCap e)) - (sLen + n)), by simp [Builtin.zeroCells, hzc, hzl], ?_⟩
    simp [Builtin.append_, hd, hd', hez, Builtin.lenOf, hgt, hi1, hmx, hsz, hforced, hi1', hold, hs2, hz, newRow]

theorem sliceElem_some {t : TypeId} {ε : Ty} (h : sliceElem tab t = some ε) : ∃ τ e, tab t = some τ ∧ τ.kind = .slice e ∧ tab e = some ε := by
  unfold sliceElem at h
  rw [Option.bind_eq_some_iff] at h
  obtain ⟨τ, hτ, h⟩ := h
  split at h
  · next e hk => exact ⟨τ, e, hτ, hk, h⟩
  · cases h

theorem put_self {w : World} {b : Nat} {o : Obj} (h : w.heap[b]? = some o) : World.put w b o = w := by
  unfold World.put
  have e : w.heap.setIfInBounds b o = w.heap := by
    apply Array.ext_getElem?
    intro i
    rw [Array.getElem?_setIfInBounds]
    split
    · next e => subst e; rw [h, if_pos (Array.getElem?_eq_some_iff.1 h).1]
    · rfl
  rw [e]

/-- what the slice that is appended to lies in: no room, or a block that has a name -/
inductive Room (F : Nat → Prop) (ids : Nat → Nat × Nat) (w : World) (h : Hp) (Z : Nat → Prop) (sz : Nat) (old src : List (List V)) (base : Option Addr) (cap : Nat) : Prop
  | full (hc : cap < old.length + src.length) : Room F ids w h Z sz old src base cap
  | own (n off : Nat) (b : B) (arr : Array Value) (T : TypeId) (hZ : ∀ m, Z m ↔ m = n) (hn : h n = some b) (hr : b.real = true) (hb : w.heap[(ids n).1]? = some (.cells arr T (0, 0)))
      (ha : cap ≠ 0 → base = some ⟨(ids n).1, (ids n).2 + off * sz, none⟩) (hs : (ids n).2 + (off + cap) * sz ≤ arr.size)
      (ho : ∀ (i : Nat) (row : List V) (j : Nat) (x : V), old[i]? = some row → row[j]? = some x → ∃ v, arr[(ids n).2 + off * sz + (i * sz + j)]? = some v ∧ RepV (Avoid F h ids) ids w x v) : Room F ids w h Z sz old src base cap

theorem Room.fully {F : Nat → Prop} {ids : Nat → Nat × Nat} {w : World} {h : Hp} {Z : Nat → Prop} {sz : Nat} {old src : List (List V)} {base : Option Addr} {cap : Nat} (hc : cap = old.length) (hne : src ≠ []) : Room F ids w h Z sz old src base cap :=
  .full (by have := List.length_pos_iff.2 hne; omega)

theorem append_core (ht : TabOk P tab) {F : Nat → Prop} {ids : Nat → Nat × Nat} {w : World} {h : Hp} {nx : Nm} {nm : Nat} (hh : RepH F ids w h nx) (hnm : ¬ nx nm) {t t' T e : TypeId} {τ τ' ε : Ty} (hτ : tab t = some τ) (hk : τ.kind = .slice e) (he : tab e = some ε)
    (hτ' : tab t' = some τ') (hk' : ∃ e', τ'.kind = .slice e') (hb : ε.bytes ≤ 4096) {old src : List (List V)} (hsmall : old.length + src.length < 2147483648) {Z : Nat → Prop} [DecidablePred Z] {base : Option Addr} {cap : Nat} {vx : Value}
    (ho : Reads P (Avoid F h ids) ids w ε.size old (.slice base old.length cap)) (ho' : Reads P (Avoid F h ids) ids w.drew ε.size old (.slice base old.length cap))
    (hx : Reads P (Avoid F h ids) ids w ε.size src vx) (hx' : Reads P (Avoid F h ids) ids w.drew ε.size src vx)
    (hbo : ∀ row ∈ old, ∀ x ∈ row, x.Below nx) (hbx : ∀ row ∈ src, ∀ x ∈ row, x.Below nx) (hleaf : ∀ row ∈ src, row.all V.leaf = true)
    (hroom : Room F ids w h Z ε.size old src base cap) :
    ∃ val w' ids', ((do pure (Next.value (← Builtin.append_ #[t, t'] T #[.slice base old.length cap, vx])) : Sem Next).run P w) = .ok (.value val) w' ∧
      Chg F ids w h nx ids' w' (upd (fun n => if Z n then none else h n) nm (some (.rows ε.size (old ++ src)))) (nx.add nm) ∧
      ∀ A, RepV A ids' w' (.sl nm ε.size 0 (old.length + src.length)) val := by
  obtain ⟨_, _, e0, hlc, old1, hold1, hso1⟩ := ho
  cases e0
  obtain ⟨a, c, rfl, hnc, arr, harr, hst⟩ := hx
  obtain ⟨r1, r2⟩ := append_run (P := P) (T := T) ht hτ hk he hτ' hk' (w := w) (base := base) (sLen := old.length) (sCap := cap) (n := src.length) (a := a) (c := c) hb hsmall
  by_cases hfit : old.length + src.length ≤ cap
  · have hrun := r1 hfit arr harr
    cases hroom with
    | full hc => exact absurd hfit (by omega)
    | own n off b arr0 T0 hZ hn hr hb0 ha hs hold =>
      have hlt := (Array.getElem?_eq_some_iff.1 hb0).1
      have hroom : (ids n).2 + off * ε.size + old.length * ε.size + arr.toList.length ≤ arr0.size := by
        simp only [Array.length_toList, hst.len]
        have : (off + (old.length + src.length)) * ε.size ≤ (off + cap) * ε.size := Nat.mul_le_mul_right _ (by omega)
        rw [Nat.add_mul, Nat.add_mul] at this
        omega
      obtain ⟨arr', harr'⟩ : ∃ a, a = splice arr0 ((ids n).2 + off * ε.size + old.length * ε.size) arr.toList := ⟨_, rfl⟩
      have hsz' : arr'.size = arr0.size := by rw [harr']; exact splice_size _ _ _
      have hget : ∀ k, arr'[k]? = if (ids n).2 + off * ε.size + old.length * ε.size ≤ k ∧ k < (ids n).2 + off * ε.size + old.length * ε.size + arr.toList.length then arr.toList[k - ((ids n).2 + off * ε.size + old.length * ε.size)]? else arr0[k]? := by
        intro k; rw [harr']; exact splice_get _ _ _ _ hroom
      have hput : arr.toList = [] → World.put w (ids n).1 (.cells arr' T0 (0, 0)) = w := fun hz => by
        have : arr' = arr0 := by rw [harr', hz]; rfl
        rw [this]; exact put_self hb0
      have hstore : (stAt base (old.length * ε.size) arr.toList).run P w = .ok () (World.put w (ids n).1 (.cells arr' T0 (0, 0))) := by
        by_cases hz : arr.toList = []
        · rw [hput hz]
          cases base <;> simp only [stAt, hz, storeCells] <;> rfl
        · have hpos : 0 < src.length * ε.size := by rw [← hst.len]; exact Nat.pos_of_ne_zero fun e => hz (by simpa using Array.eq_empty_of_size_eq_zero e)
          have hsp : 0 < src.length := Nat.pos_of_ne_zero fun e => by rw [e] at hpos; simp at hpos
          obtain rfl := ha (by omega)
          have hrun2 := storeCells_run P (ids n).1 T0 arr.toList (hst.oneCells hleaf) w ((ids n).2 + off * ε.size + old.length * ε.size) 0 arr0 hb0 (by omega)
          rw [if_neg hz] at hrun2
          simp only [stAt, add_none]
          rw [harr']
          exact hrun2
      rw [hstore] at hrun
      have hgo : Goes (fun c => ∃ n x, Z n ∧ h n = some x ∧ x.real = true ∧ (ids n).1 = c) w (World.put w (ids n).1 (.cells arr' T0 (0, 0))) := by
        refine ⟨Nat.le_of_eq (put_size _ _ _).symm, fun c _ hc => put_other _ _ _ _ fun e => hc ⟨n, b, (hZ n).2 rfl, hn, hr, e.symm⟩, fun c arr1 T1 fz hc => ?_, fun c es k hc => ?_, ⟨rfl, rfl⟩, fun a => ?_⟩
        · by_cases e : c = (ids n).1
          · subst e
            rw [hb0] at hc; cases hc
            exact ⟨_, put_same _ _ _ hlt, hsz'⟩
          · exact ⟨arr1, by rw [put_other _ _ _ _ e]; exact hc, rfl⟩
        · by_cases e : c = (ids n).1
          · subst e; rw [hb0] at hc; cases hc
          · exact ⟨es, k, by rw [put_other _ _ _ _ e]; exact hc⟩
        · by_cases e : a.block = (ids n).1
          · exact frozen_cells (by rw [e]; exact hb0) (by rw [e, put_same _ _ _ hlt])
          · exact frozen_same (put_other _ _ _ _ e)
      have hga : Goes (Avoid F h ids) w (World.put w (ids n).1 (.cells arr' T0 (0, 0))) := hgo.weaken fun c _ ⟨n, x, _, hx, hxr, e⟩ => .inr ⟨n, x, hx, hxr, e⟩
      have hchg := Chg.name hh hnm Z ((ids n).1, (ids n).2 + off * ε.size) (.rows ε.size (old ++ src)) hgo
        (fun row hrow x hx => ((List.mem_append.1 hrow).elim (fun h => hbo row h x hx) (fun h => hbx row h x hx)).mono (Nm.le_add _ _)) (fun _ => .inr ⟨n, b, (hZ n).2 rfl, hn, hr, rfl⟩) fun ids' A hi hA => by
          refine ⟨arr', T0, put_same _ _ _ hlt, ?_, fun row hrow => (List.mem_append.1 hrow).elim (hso1.wid row) (hst.wid row), fun i row j x hi' hj => ?_⟩
          · simp only [List.length_append, Nat.add_mul]
            rw [hsz']
            simp only [Array.length_toList, hst.len] at hroom
            omega
          · simp only [hget]
            by_cases hil : i < old.length
            · rw [List.getElem?_append_left hil] at hi'
              obtain ⟨v, hv, hrep⟩ := hold i row j x hi' hj
              have hin : i * ε.size + j < old.length * ε.size := row_in hil (by rw [← hso1.wid row (List.mem_of_getElem? hi')]; exact (List.getElem?_eq_some_iff.1 hj).1)
              rw [if_neg (by omega)]
              exact ⟨v, hv, hrep.mono hga hA hi (hbo row (List.mem_of_getElem? hi') x (List.mem_of_getElem? hj))⟩
            · rw [List.getElem?_append_right (by omega)] at hi'
              obtain ⟨v, hv, hrep⟩ := hst.rep _ row j x hi' hj
              have hlt := (Array.getElem?_eq_some_iff.1 hv).1
              have e : i * ε.size = old.length * ε.size + (i - old.length) * ε.size := by rw [← Nat.add_mul]; congr 1; omega
              rw [if_pos (by simp; omega)]
              refine ⟨v, ?_, hrep.mono hga hA hi (hbx row (List.mem_of_getElem? hi') x (List.mem_of_getElem? hj))⟩
              rw [show (ids n).2 + off * ε.size + (i * ε.size + j) - ((ids n).2 + off * ε.size + old.length * ε.size) = (i - old.length) * ε.size + j by omega]
              simpa using hv
      refine ⟨_, _, _, by simp only [Sem.run_bind, hrun]; rfl, hchg, fun A => .sl _ _ _ _ _ _ hfit fun h0 => ?_⟩
      refine ⟨arr', T0, by rw [upd_same]; exact put_same _ _ _ hlt, by rw [upd_same]; simpa using ha h0, ?_⟩
      rw [upd_same]
      rw [hsz', Nat.zero_add]
      have : (off + cap) * ε.size = off * ε.size + cap * ε.size := Nat.add_mul _ _ _
      dsimp only; omega
  · obtain ⟨newCap, hcap, r2⟩ := r2 hfit
    obtain ⟨_, _, e1, _, old', hold', hso'⟩ := ho'
    cases e1
    obtain ⟨_, _, e1, _, arr', harr', hst'⟩ := hx'
    cases e1
    obtain ⟨rest, hrest, r2⟩ := r2 old' arr' hold' harr'
    have hboth := hso'.append hst'
    have hg : Goes (fun c => ∃ n x, Z n ∧ h n = some x ∧ x.real = true ∧ (ids n).1 = c) w (w.drew.alloc (.cells (old' ++ arr' ++ rest) e)) := (Goes.drew _ w).trans (Goes.alloc _ _ _) (fun _ _ x => x)
    have hga : Goes (Avoid F h ids) w.drew (w.drew.alloc (.cells (old' ++ arr' ++ rest) e)) := Goes.alloc _ _ _
    have hbb : ∀ row ∈ old ++ src, ∀ x ∈ row, x.Below nx := fun row hrow x hx => (List.mem_append.1 hrow).elim (fun h => hbo row h x hx) (fun h => hbx row h x hx)
    have hchg := Chg.name hh hnm Z (w.heap.size, 0) (.rows ε.size (old ++ src)) hg (fun row hrow x hx => (hbb row hrow x hx).mono (Nm.le_add _ _)) (fun _ => .inl ⟨Nat.le_refl _, by simp⟩) fun ids' A hi hA => by
      refine ⟨_, e, alloc_new _ _, ?_, hboth.wid, fun i row j x hi' hj => ?_⟩
      · rw [Array.size_append, hboth.len]; dsimp only; omega
      · obtain ⟨v, hv, hr⟩ := hboth.rep i row j x hi' hj
        have := (Array.getElem?_eq_some_iff.1 hv).1
        refine ⟨v, ?_, hr.mono hga hA hi (hbb row (List.mem_of_getElem? hi') x (List.mem_of_getElem? hj))⟩
        dsimp only
        rw [Nat.zero_add, Array.getElem?_append_left this]; exact hv
    refine ⟨_, _, _, by simp only [Sem.run_bind, r2]; rfl, hchg, fun A => .sl _ _ _ _ _ _ hcap fun h0 => ?_⟩
    refine ⟨_, e, by rw [upd_same]; exact alloc_new _ _, by rw [upd_same]; simp, ?_⟩
    rw [upd_same]
    simp only [Array.size_append, hso'.len, hst'.len, hrest, Nat.zero_add]
    rw [← Nat.add_mul, ← Nat.add_mul]; exact Nat.le_of_eq (by congr 1; omega)

theorem leaves_toVs {r : List (List D)} (h : leaves r) : ∀ row ∈ toVs r, row.all V.leaf = true := by
  intro row hrow
  obtain ⟨rd, hrd, rfl⟩ := List.mem_map.1 hrow
  rw [List.all_eq_true]
  intro x hx
  obtain ⟨d, hd, rfl⟩ := List.mem_map.1 hx
  have := List.all_eq_true.1 (h rd hrd) d hd
  cases d <;> first | rfl | exact this
theorem RepD.leaves {A : Nat → Prop} {w : World} {sz : Nat} {rows : List (List D)} {v : Value} (h : RepD A w (.lst sz rows) v) : leaves rows := by
  cases h with
  | emp => simp [Abs.leaves]
  | lst _ _ b o cap cell hcap hb hA hwd hcell hdd =>
    intro row hrow
    obtain ⟨i, hi⟩ := List.getElem?_of_mem hrow
    rw [List.all_eq_true]
    intro d hd
    obtain ⟨j, hj⟩ := List.getElem?_of_mem hd
    have := hdd i row j d hi hj
    generalize cell i j = u at this
    cases this <;> first | rfl | assumption
theorem leaves_app {r s : List (List D)} (h : leaves r) (h' : leaves s) : leaves (r ++ s) := fun row hr => (List.mem_append.1 hr).elim (h row) (h' row)
theorem leaves_cut {r : List (List D)} (h : leaves r) (a b : Nat) : leaves ((r.drop a).take b) := fun row hr => h row (List.mem_of_mem_drop (List.mem_of_mem_take hr))
theorem dRows_leaves {F : Nat → Prop} {ids : Nat → Nat × Nat} {w : World} {h : Hp} {nx : Nm} {sz : Nat} (hh : RepH F ids w h nx) {x : V} {vx : Value} {src : List (List D)} (hx : RepV (Avoid F h ids) ids w x vx) (hs : dRows h sz x = some src) : leaves src := by
  unfold dRows at hs
  split at hs
  · split at hs
    · cases hs; cases hx with | lst _ _ _ _ hd _ => exact hd.leaves
    · cases hs
  · cases hs; simp [leaves]
  · split at hs
    · rw [Option.bind_eq_some_iff] at hs
      obtain ⟨r, hr, hs⟩ := hs
      split at hs
      · cases hs; exact (hh.blk _ _ (datOf_some hr)).2
      · cases hs
    · cases hs
  · split at hs
    · rw [Option.bind_eq_some_iff] at hs
      obtain ⟨r, hr, hs⟩ := hs
      split at hs
      · cases hs; exact leaves_cut (hh.blk _ _ (datOf_some hr)).2 _ _
      · cases hs
    · cases hs
  · cases hs

theorem appendV_sound (ht : TabOk P tab) {F : Nat → Prop} {ids : Nat → Nat × Nat} {w : World} {h h' : Hp} {nx : Nm} {nm : Nat} (hh : RepH F ids w h nx) (hn : ¬ nx nm) {t t' T : TypeId} {τ' : Ty} {s x v : V} {vs vx : Value}
    (hs : RepV (Avoid F h ids) ids w s vs) (hx : RepV (Avoid F h ids) ids w x vx) (hbs : s.Below nx) (hbx : x.Below nx) (hτ' : tab t' = some τ') (hk' : ∃ e', τ'.kind = .slice e')
    (ha : appendV tab nm h t s x = some (v, h')) : OpOk F ids w h nx ((do pure (Next.value (← Builtin.append_ #[t, t'] T #[vs, vx])) : Sem Next).run P w) v h' (nx.add nm) := by
  unfold appendV at ha
  rw [Option.bind_eq_some_iff] at ha
  obtain ⟨ε, hε, ha⟩ := ha
  split at ha
  case isFalse => cases ha
  next hbytes =>
  obtain ⟨τ, e, hτ, hk, he⟩ := sliceElem_some hε
  have hdr := Chg.drew hh
  split at ha
  · next src hsrc =>
    have hrd := dRows_sound (P := P) hh hx hsrc
    have hrd' := dRows_sound (P := P) hdr.heap (hdr.rep hx hbx) hsrc
    have hlv := dRows_leaves hh hx hsrc
    -- the block's rows as data
    have fin : ∀ {old : List (List D)} {Z : Nat → Prop} [DecidablePred Z] {ids' : Nat → Nat × Nat} {w' : World} {h1 : Hp}, h1 = (fun n => if Z n then none else h n) → leaves old → Chg F ids w h nx ids' w' (upd h1 nm (some (.rows ε.size (toVs old ++ toVs src)))) (nx.add nm) →
        Chg F ids w h nx ids' w' (upd h1 nm (some (.dat ε.size (old ++ src)))) (nx.add nm) := by
      intro old Z _ ids' w' h1 _ hlo hc
      have h2 := Chg.unsee (n := nm) (sz := ε.size) (r := old ++ src) hc.heap (by rw [upd_same, toVs_app]) (leaves_app hlo hlv)
      have h3 := hc.trans h2
      have e : ∀ (b1 b2 : Option B), upd (upd h1 nm b1) nm b2 = upd h1 nm b2 := fun b1 b2 => by funext m; unfold upd; split <;> rfl
      rwa [e] at h3
    have noZ : (fun n => if (fun _ : Nat => False) n then none else h n) = h := by funext n; simp
    -- an accumulator out of a slice that is written anew
    have acc : ∀ {ids' : Nat → Nat × Nat} {w' : World} {h1 : Hp} {len : Nat} {val : Value}, (∀ A, RepV A ids' w' (.sl nm ε.size 0 len) val) → len ≠ 0 → RepV (Avoid F h1 ids') ids' w' (.ac nm ε.size len) val := fun hv h0 => .ac1 _ _ _ _ h0 (hv _)
    -- nothing is appended to nothing
    have none0 : ∀ (ad : Option Addr) (h1 : Hp), (∀ m c, h1 m = some c → h m = some c) → src = [] → ∃ ids', ((do pure (Next.value (← Builtin.append_ #[t, t'] T #[.slice ad 0 0, vx])) : Sem Next).run P w) = .ok (.value (.slice ad 0 0)) w ∧ Chg F ids w h nx ids' w (upd h1 nm (some (.dat ε.size []))) (nx.add nm) := by
      intro ad h1 hl hsr
      subst hsr
      obtain ⟨a, c, rfl, hnc, arr, harr, hst⟩ := hrd
      obtain ⟨r1, _⟩ := append_run (P := P) (T := T) ht hτ hk he hτ' hk' (w := w) (base := ad) (sLen := 0) (sCap := 0) (n := 0) (a := a) (c := c) hbytes (by omega)
      have harr0 : arr = #[] := by have := hst.len; simp [toVs] at this; exact this
      subst harr0
      have := r1 (Nat.le_refl _) #[] harr
      refine ⟨_, ?_, (Chg.less hh hl).trans (Chg.ghost (Chg.less hh hl).heap hn)⟩
      simp only [Sem.run_bind, toVs, List.map_nil, List.length_nil, this]
      cases ad <;> rfl
    split at ha
    · -- nil
      cases hs
      split at ha
      case isFalse => cases ha
      next hsmall =>
      cases ha
      by_cases hne : src = []
      · obtain ⟨ids', r1, r2⟩ := none0 none h (fun _ _ h => h) hne
        subst hne
        exact OpOk.made r2 r1 (.ac0 _ _ _) (.ac _ _ _ (.inr rfl))
      · obtain ⟨val, w', ids', r1, r2, r3⟩ := append_core (P := P) (T := T) ht hh hn hτ hk he hτ' hk' hbytes (old := []) (src := toVs src) (by simpa [toVs_len] using hsmall) (Z := fun _ => False) (Reads.nil P none 0) (Reads.nil P none 0) hrd hrd' (by simp) (toVs_below nx src) (leaves_toVs hlv) (.fully rfl (by simpa [toVs_nil] using hne))
        have r2' := fin (old := []) rfl (by simp [leaves]) r2
        rw [noZ, List.nil_append] at r2'
        simp only [List.length_nil, Nat.zero_add, toVs_len] at r3
        exact OpOk.made r2' r1 (acc r3 (by simpa using hne)) (.ac _ _ _ (.inr rfl))
    · -- immutable data, without room
      next sz rows clip =>
      split at ha
      case isFalse => cases ha
      next hcond =>
      obtain ⟨rfl, rfl, hsmall, hne⟩ := hcond
      cases ha
      have hs2 := hdr.rep hs hbs
      cases hs with
      | lst _ _ _ _ hrdd hcl =>
      cases hs2 with
      | lst _ _ _ _ hrdd' _ =>
      obtain ⟨ad, rfl⟩ := hcl rfl
      have o1 := hrdd.reads (P := P) (ids := ids)
      have o2 := hrdd'.reads (P := P) (ids := ids)
      by_cases hn0 : src = []
      · obtain rfl := hne hn0
        obtain ⟨ids', r1, r2⟩ := none0 ad h (fun _ _ h => h) hn0
        subst hn0
        exact OpOk.made r2 r1 (.ac0 _ _ _) (.ac _ _ _ (.inr rfl))
      · rw [← toVs_len rows] at o1 o2
        obtain ⟨val, w', ids', r1, r2, r3⟩ := append_core (P := P) (T := T) ht hh hn hτ hk he hτ' hk' hbytes (old := toVs rows) (src := toVs src) (by simpa [toVs_len] using hsmall) (Z := fun _ => False) o1 o2 hrd hrd' (toVs_below nx rows) (toVs_below nx src) (leaves_toVs hlv) (.fully rfl (by simpa [toVs_nil] using hn0))
        have r2' := fin rfl hrdd.leaves r2
        rw [noZ] at r2'
        simp only [toVs_len] at r3 r1
        have := List.length_pos_iff.2 hn0
        exact OpOk.made r2' r1 (acc r3 (by omega)) (.ac _ _ _ (.inr rfl))
    · -- what was collected before
      next n sz len =>
      rw [Option.bind_eq_some_iff] at ha
      obtain ⟨r, hr, ha⟩ := ha
      split at ha
      case isFalse => cases ha
      next hcond =>
      obtain ⟨rfl, rfl, hsmall⟩ := hcond
      cases ha
      have hnr := datOf_some hr
      have hdrop : ∀ m c, upd h n none m = some c → h m = some c := by
        intro m c hc
        by_cases e : m = n
        · subst e; rw [upd_same] at hc; cases hc
        · rwa [upd_ne _ _ _ _ e] at hc
      have o1 := dRows_sound (P := P) (sz := ε.size) (src := r) hh hs (by simp [dRows, hr])
      have o2 := dRows_sound (P := P) (sz := ε.size) (src := r) hdr.heap (hdr.rep hs hbs) (by simp [dRows, hr])
      have hlr := (hh.blk n _ hnr).2
      by_cases hr0 : r = []
      · have hv : ∃ ad, vs = .slice ad 0 0 := by
          rw [hr0] at hs
          cases hs with
          | ac0 => exact ⟨_, rfl⟩
          | ac1 _ _ _ _ h0 => exact absurd rfl h0
        obtain ⟨ad, rfl⟩ := hv
        by_cases hn0 : src = []
        · obtain ⟨ids', r1, r2⟩ := none0 ad (upd h n none) hdrop hn0
          subst hn0; subst hr0
          exact OpOk.made r2 r1 (.ac0 _ _ _) (.ac _ _ _ (.inr rfl))
        · subst hr0
          obtain ⟨val, w', ids', r1, r2, r3⟩ := append_core (P := P) (T := T) ht hh hn hτ hk he hτ' hk' hbytes (old := []) (src := toVs src) (by simpa [toVs_len] using hsmall) (Z := fun m => m = n) (Reads.nil P ad 0) (Reads.nil P ad 0) hrd hrd' (by simp) (toVs_below nx src) (leaves_toVs hlv) (.fully rfl (by simpa [toVs_nil] using hn0))
          have r2' := fin (old := []) rfl (by simp [leaves]) r2
          simp only [List.length_nil, Nat.zero_add, toVs_len] at r3 ⊢
          exact OpOk.made r2' r1 (acc r3 (by simpa using hn0)) (.ac _ _ _ (.inr rfl))
      · have hs' : RepV (Avoid F h ids) ids w (.sl n ε.size 0 r.length) vs := by
          generalize hq : r.length = q at hs
          cases hs with
          | ac0 => exact absurd (List.length_eq_zero_iff.1 hq) hr0
          | ac1 _ _ _ _ h0 hs => exact hq ▸ hs
        · cases hs' with
          | sl _ _ _ _ cap ad hl hc =>
            have hpos := List.length_pos_iff.2 hr0
            obtain ⟨arr0, T0, b1, b2, b3⟩ := hc (by omega)
            have hR := (hh.blk n _ hnr).1 hr0
            obtain ⟨arrb, Tb, c1, c2, c3, c4⟩ := hR
            rw [b1] at c1
            simp only [Option.some.injEq, Obj.cells.injEq, and_true] at c1
            obtain ⟨rfl, rfl⟩ := c1
            rw [← toVs_len r] at o1 o2
            obtain ⟨val, w', ids', r1, r2, r3⟩ := append_core (P := P) (T := T) ht hh hn hτ hk he hτ' hk' hbytes (old := toVs r) (src := toVs src) (by simpa [toVs_len] using hsmall) (Z := fun m => m = n) o1 o2 hrd hrd' (toVs_below nx r) (toVs_below nx src) (leaves_toVs hlv)
              (.own n 0 _ arr0 T0 (fun _ => Iff.rfl) hnr (dat_real hr0) b1 (fun _ => b2) b3 (by simpa using c4))
            have r2' := fin rfl hlr r2
            simp only [toVs_len] at r3 r1
            exact OpOk.made r2' r1 (acc r3 (by omega)) (.ac _ _ _ (.inr rfl))
    · -- a part of a block that has a name
      next n sz off len =>
      rw [Option.bind_eq_some_iff] at ha
      obtain ⟨r, hr, ha⟩ := ha
      split at ha
      case isFalse => cases ha
      next hcond =>
      obtain ⟨rfl, hr0, hin, hsmall⟩ := hcond
      cases ha
      have hnr := datOf_some hr
      have o1 := dRows_sound (P := P) (sz := ε.size) (src := (r.drop off).take len) hh hs (by simp [dRows, hr, hin])
      have o2 := dRows_sound (P := P) (sz := ε.size) (src := (r.drop off).take len) hdr.heap (hdr.rep hs hbs) (by simp [dRows, hr, hin])
      have hlr := (hh.blk n _ hnr).2
      have hlen : (toVs ((r.drop off).take len)).length = len := by rw [toVs_len]; simp; omega
      cases hs with
      | sl _ _ _ _ cap ad hl hc =>
        obtain ⟨arr0, T0, c1, c2, c3, c4⟩ := (hh.blk n _ hnr).1 hr0
        have hroom : Room F ids w h (fun m => m = n) ε.size (toVs ((r.drop off).take len)) (toVs src) ad cap := by
          refine .own n off _ arr0 T0 (fun _ => Iff.rfl) hnr (dat_real hr0) c1 (fun h0 => ?_) ?_ (fun i row j x hi hj => ?_)
          · obtain ⟨_, _, _, h2, _⟩ := hc h0; exact h2
          · by_cases h0 : cap = 0
            · subst h0
              have : (off + 0) * ε.size ≤ (toVs r).length * ε.size := Nat.mul_le_mul_right _ (by rw [toVs_len]; omega)
              omega
            · obtain ⟨arr1, T1, b1, _, b3⟩ := hc h0
              rw [c1] at b1
              simp only [Option.some.injEq, Obj.cells.injEq, and_true] at b1
              rw [b1.1]; exact b3
          · rw [toVs_cut] at hi
            have hlt : i < len := by have := (List.getElem?_eq_some_iff.1 hi).1; simp at this; omega
            rw [List.getElem?_take_of_lt hlt, List.getElem?_drop] at hi
            obtain ⟨v, hv, hrep⟩ := c4 (off + i) row j x hi hj
            exact ⟨v, by rw [← hv]; congr 1; rw [Nat.add_mul]; omega, hrep⟩
        generalize hold : toVs ((r.drop off).take len) = old at o1 o2 hlen hroom
        subst hlen
        obtain ⟨val, w', ids', r1, r2, r3⟩ := append_core (P := P) (T := T) ht hh hn hτ hk he hτ' hk' hbytes (old := old) (src := toVs src) (by simpa [toVs_len] using hsmall) (Z := fun m => m = n) o1 o2 hrd hrd' (hold ▸ toVs_below nx _) (toVs_below nx src) (leaves_toVs hlv) hroom
        have r2' := fin (old := (r.drop off).take old.length) rfl (leaves_cut hlr _ _) (by rw [hold]; exact r2)
        simp only [toVs_len] at r3
        exact OpOk.made r2' r1 (r3 _) (.sl _ _ _ _ (.inr rfl))
    · cases ha
  · rw [Option.bind_eq_some_iff] at ha
    obtain ⟨src, hsrc, ha⟩ := ha
    split at ha
    case isFalse => cases ha
    next hall =>
    rw [List.all_eq_true] at hall
    have hw : ∀ row ∈ src, row.length = ε.size := fun row hr => by have := hall row hr; simp only [Bool.and_eq_true, decide_eq_true_eq] at this; exact this.1
    have hleaf : ∀ row ∈ src, row.all V.leaf = true := fun row hr => by have := hall row hr; rw [Bool.and_eq_true] at this; exact this.2
    obtain ⟨hrd, hbsrc⟩ := rowsFrom_sound (P := P) hh hx hsrc hw
    obtain ⟨hrd', _⟩ := rowsFrom_sound (P := P) hdr.heap (hdr.rep hx hbx) hsrc hw
    have noZ : (fun n => if (fun _ : Nat => False) n then none else h n) = h := by funext n; simp
    split at ha
    · cases hs
      split at ha
      case isFalse => cases ha
      next hsmall =>
      cases ha
      obtain ⟨val, w', ids', r1, r2, r3⟩ := append_core (P := P) (T := T) ht hh hn hτ hk he hτ' hk' hbytes (old := []) (src := src) (by simpa using hsmall.1) (Z := fun _ => False) (Reads.nil P none 0) (Reads.nil P none 0) hrd hrd' (by simp) hbsrc hleaf (.fully rfl hsmall.2)
      rw [noZ, List.nil_append] at r2
      simp only [List.length_nil, Nat.zero_add] at r3
      exact OpOk.made r2 r1 (r3 _) (.sl _ _ _ _ (.inr rfl))
    · next n sz off len =>
      rw [Option.bind_eq_some_iff] at ha
      obtain ⟨r, hr, ha⟩ := ha
      split at ha
      case isFalse => cases ha
      next hcond =>
      obtain ⟨rfl, hin, hsmall⟩ := hcond
      cases ha
      have hnr := rowsOf_some hr
      have hb := hh.blk n _ hnr
      have hcut : ∀ row ∈ (r.drop off).take len, row.length = ε.size := fun row hrow => by
        obtain ⟨_, _, _, _, b3, _⟩ := hb
        exact b3 row (List.mem_of_mem_drop (List.mem_of_mem_take hrow))
      obtain ⟨o1, hbo⟩ := rowsFrom_sound (P := P) hh hs (src := (r.drop off).take len) (by simp [rowsFrom, hr, hin]) hcut
      obtain ⟨o2, _⟩ := rowsFrom_sound (P := P) hdr.heap (hdr.rep hs hbs) (src := (r.drop off).take len) (by simp [rowsFrom, hr, hin]) hcut
      have hlen : ((r.drop off).take len).length = len := by simp; omega
      cases hs with
      | sl _ _ _ _ cap ad hl hc =>
        obtain ⟨arr0, T0, c1, c2, c3, c4⟩ := hb
        have hroom : Room F ids w h (fun m => m = n) ε.size ((r.drop off).take len) src ad cap := by
          refine .own n off _ arr0 T0 (fun _ => Iff.rfl) hnr rfl c1 (fun h0 => ?_) ?_ (fun i row j x hi hj => ?_)
          · obtain ⟨_, _, _, h2, _⟩ := hc h0; exact h2
          · by_cases h0 : cap = 0
            · subst h0
              have : (off + 0) * ε.size ≤ r.length * ε.size := Nat.mul_le_mul_right _ (by omega)
              omega
            · obtain ⟨arr1, T1, b1, _, b3⟩ := hc h0
              rw [c1] at b1
              simp only [Option.some.injEq, Obj.cells.injEq, and_true] at b1
              rw [b1.1]; exact b3
          · have hlt : i < len := by have := (List.getElem?_eq_some_iff.1 hi).1; omega
            rw [List.getElem?_take_of_lt hlt, List.getElem?_drop] at hi
            obtain ⟨v, hv, hrep⟩ := c4 (off + i) row j x hi hj
            exact ⟨v, by rw [← hv]; congr 1; rw [Nat.add_mul]; omega, hrep⟩
        generalize hold : (r.drop off).take len = old at o1 o2 hlen hroom hbo
        subst hlen
        obtain ⟨val, w', ids', r1, r2, r3⟩ := append_core (P := P) (T := T) ht hh hn hτ hk he hτ' hk' hbytes (old := old) (src := src) hsmall (Z := fun m => m = n) o1 o2 hrd hrd' hbo hbsrc hleaf hroom
        exact OpOk.made r2 r1 (r3 _) (.sl _ _ _ _ (.inr rfl))
    · cases ha
end
end Go.Proofs.Ytmihhkcbbdpnaaa.Abs
