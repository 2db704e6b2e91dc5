/- The abstract machine, part 27: appending zeros, copies and cuts in regions of open order, slices that may overlap. -/
import Derived.Test.YtmihhkcbbdpnaaaC11
import Derived.Laws.Externs
namespace Go.Proofs.Ytmihhkcbbdpnaaa.Abs
set_option linter.unusedVariables false
set_option linter.unusedSimpArgs false
section
variable {P : Program} {tab : Tab}

/-! ### zeros, appended where there is no room -/
theorem int_desc (ht : TabOk P tab) {t : TypeId} {k : IntKind} {τ : Ty} (hτ : tab t = some τ) (hk : τ.kind = .int k) (w : World) : (underlying t).run P w = .ok (.int k) w := by
  obtain ⟨d, h1, _, hf⟩ := (ht t τ hτ).desc
  rw [hk] at hf
  generalize τ.agg = g at hf
  cases hf; exact h1 w
theorem appendZ_run (ht : TabOk P tab) {t tn T e : TypeId} {τ τn ε : Ty} (hτ : tab t = some τ) (hk : τ.kind = .slice e) (he : tab e = some ε) {kn kq : IntKind} (hτn : tab tn = some τn) (hkn : τn.kind = .int kn) {w : World}
    {base : Option Addr} {sLen sCap k : Nat} (hb : ε.bytes ≤ 4096) (hneed : sLen + k < 2147483648) (hgt : sCap < sLen + k) (hs : 0 < ε.size) (h0 : 0 < k) :
    ∃ newCap, sLen + k ≤ newCap ∧ ∀ old : Array Value, (Builtin.firstCells ε.size sLen (.slice base sLen sCap)).run P w.drew = .ok old w.drew →
      ∃ rest : Array Value, rest.size = (newCap - (sLen + k)) * ε.size ∧ (Builtin.append_ #[t, tn] T #[.slice base sLen sCap, .int kq k]).run P w = .ok (.slice (some ⟨w.heap.size, 0, none⟩) (sLen + k) newCap) (w.drew.alloc (.cells (old ++ Builtin.zeroCells ε.zero.toArray k ++ rest) e)) := by
  have hd := slice_desc ht hτ hk
  have hez := (ht e ε he).sizeOf
  have hdn := int_desc ht hτn hkn
  obtain ⟨z, hz, hzc⟩ := (ht e ε he).zero w.drew
  have hzl := (ht e ε he).zlen
  obtain ⟨i, hi1, hi2⟩ := (ht e ε he).typeInfo w
  obtain ⟨i', hi1', hi2'⟩ := (ht e ε he).typeInfo w.drew
  have hnc := nextslicecap_le (need := sLen + k) (cap := sCap) hgt
  have hsz : ¬ 281474976710656 < Builtin.nextslicecap (sLen + k) sCap * i.bytes := by
    have h2 : Builtin.nextslicecap (sLen + k) sCap * i.bytes ≤ (2 * (sLen + k) + 192) * 4096 := Nat.mul_le_mul hnc (by omega)
    omega
  have hmx : ¬ (9223372036854775807 : Int) < (sLen : Int) + k := by omega
  have hforced : (Question.appendCap (sLen + k) sCap e).forced = false := rfl
  have hw : IntKind.i64.wrap (k : Int) = k := by rw [IntKind.wrap_i64]; omega
  have hneg : ¬ ((k : Int) < 0) := by omega
  have hkb : k * i.bytes ≤ 8796093022208 := Nat.le_trans (Nat.mul_le_mul (show k ≤ 2147483648 by omega) (show i.bytes ≤ 4096 by omega)) (by omega)
  have h48 : ¬ (281474976710656 < ((k : Int) * (i.bytes : Int))) := by rw [← Int.natCast_mul]; omega
  have hns : ¬ (k * ε.size = 0) := by have := Nat.mul_pos h0 hs; omega
  have hnle : ¬ (sLen + k ≤ sCap) := by omega
  refine ⟨(Question.appendCap (sLen + k) sCap e).cut (w.tape w.drawn (.appendCap (sLen + k) sCap e)), by simp only [Question.cut]; omega, fun old hold => ?_⟩
  refine ⟨Builtin.zeroCells z.cells ((Question.appendCap (sLen + k) sCap e).cut (w.tape w.drawn (.appendCap (sLen + k) sCap e)) - (sLen + k)), by simp [Builtin.zeroCells, hzc, hzl], ?_⟩
  rw [← hzc]
  simp [Builtin.append_, hd, hdn, hez, asInt, asIntOf, hw, hneg, h48, hnle, hi1, hmx, hsz, hforced, hi1', hold, hns, hz, newRow]
theorem zeroCells_get {z : List Value} {sz k i j : Nat} (hz : z.length = sz) (hi : i < k) (hj : j < sz) : (Builtin.zeroCells z.toArray k)[i * sz + j]? = z[j]? := by
  have hlt := row_in hi hj
  subst hz
  have hm : (i * z.length + j) % z.length = j := by rw [Nat.mul_comm, Nat.mul_add_mod, Nat.mod_eq_of_lt hj]
  simp only [Builtin.zeroCells, Array.getElem?_map, Array.getElem?_range, List.size_toArray, hlt, if_true, Option.map_some, hm]
  rw [getElem!_pos _ _ (by simpa using hj)]
  simp [hj]
theorem zeros_stand {A : Nat → Prop} {ids : Nat → Nat × Nat} {w : World} {ε : Ty} (hzl : ε.zero.length = ε.size) {zr : List D} (hz : ZeroRow ε.zero zr) (k : Nat) : StandsR A ids w ε.size (toVs (List.replicate k zr)) (Builtin.zeroCells ε.zero.toArray k) := by
  obtain ⟨zl, zlf, zrep⟩ := hz.get
  have hrow : ∀ (i : Nat) (row : List V), (toVs (List.replicate k zr))[i]? = some row → i < k ∧ row = zr.map D.toV := by
    intro i row hi
    rw [toVs_get, List.getElem?_replicate] at hi
    split at hi
    · next hlt => simp at hi; exact ⟨hlt, hi.symm⟩
    · cases hi
  refine ⟨fun row hr => ?_, by simp [Builtin.zeroCells, toVs_len, hzl], fun i row j x hi hj => ?_⟩
  · obtain ⟨i, hi⟩ := List.getElem?_of_mem hr
    rw [(hrow i row hi).2, List.length_map, zl, hzl]
  · obtain ⟨hlt, rfl⟩ := hrow i row hi
    rw [List.getElem?_map, Option.map_eq_some_iff] at hj
    obtain ⟨d, hj, rfl⟩ := hj
    have hjl : j < ε.size := by rw [← hzl, ← zl]; exact (List.getElem?_eq_some_iff.1 hj).1
    have hjz : j < ε.zero.length := by omega
    exact ⟨ε.zero[j], by rw [zeroCells_get hzl hlt hjl]; simp [hjz], (zrep A w j _ d (by simp [hjz]) hj).toV⟩
/-- append(s, make(.., k)...) where s has no room for so many: s stays -/
theorem appendZ_aop (ht : TabOk P tab) {M : Nm} {nm : Nat} (hfresh : ¬ M nm) {ty tn : TypeId} {s x : Operand} {e : Operand → V} {h : Hp} {K : V → Hp → Prop} {ε τn : Ty} (hε : sliceElem tab ty = some ε) {kn kq : IntKind} (hτn : tab tn = some τn) (hkn : τn.kind = .int kn)
    {n off len cap k : Nat} {r : List (List D)} (hs : e s = .sx n ε.size off len cap) (hx : e x = .c (.int kq (k : Int))) (hr : h n = some (.dat ε.size r)) (hr0 : r ≠ []) (hin : off + len ≤ r.length) (hgt : cap < len + k) (h0 : 0 < k) (hsz : 0 < ε.size)
    (hneed : len + k < 2147483648) (hby : ε.bytes ≤ 4096) {zr : List D} (hz : ZeroRow ε.zero zr) (hK : K (.sl nm ε.size 0 (len + k)) (upd h nm (some (.dat ε.size ((r.drop off).take len ++ List.replicate k zr))))) : AOp P (.call ⟨.builtin .append, #[s, x], #[ty, tn]⟩) e h M nm K := by
  refine AOp.ok fun F ids w a o ho hh h1 h2 => ⟨_, _, hK, ?_⟩
  obtain ⟨τ, et, hτ, hk, he⟩ := sliceElem_some hε
  have hte := ht _ _ he
  have hsv := h1 s (by simp [Op.operands, Call.operands]); rw [hs] at hsv
  have hxv := h1 x (by simp [Op.operands, Call.operands]); rw [hx] at hxv
  have ex := int_val hxv
  generalize hq : a.eval s = sv at hsv
  cases hsv with
  | sx _ _ _ _ _ ad hl hc =>
  have hdr := Chg.drew hh
  obtain ⟨old, hold, hst⟩ := RepR.first (P := P) (len := len) ((hdr.heap.blk n _ hr).1 hr0) (off := off) (k := len) (cap := cap) hl (by rw [toVs_len]; exact hin) fun h0 => by obtain ⟨_, _, _, h3, _⟩ := hc h0; exact h3
  obtain ⟨newCap, hcap, hrun⟩ := appendZ_run (P := P) (T := o.type) (kq := kq) ht hτ hk he hτn hkn (w := w) (base := ad) (sLen := len) (sCap := cap) (k := k) hby hneed hgt hsz h0
  obtain ⟨rest, hrest, hrun⟩ := hrun old hold
  have hzs := zeros_stand (A := Avoid F h ids) (ids := ids) (w := w.drew) hte.zlen hz k
  have hboth := hst.append hzs
  rw [← toVs_cut] at hboth
  have hgo : Goes (Avoid F h ids) w.drew (w.drew.alloc (.cells (old ++ Builtin.zeroCells ε.zero.toArray k ++ rest) et)) := Goes.alloc _ _ _
  have hlv : leaves ((r.drop off).take len ++ List.replicate k zr) := leaves_app (leaves_cut (hh.blk n _ hr).2 _ _) fun row hrow => by rw [List.eq_of_mem_replicate hrow]; exact hz.get.2.1
  have hlen : ((r.drop off).take len ++ List.replicate k zr).length = len + k := by simp; omega
  have hchg := (Chg.new hdr.heap hfresh (.cells (old ++ Builtin.zeroCells ε.zero.toArray k ++ rest) et) (.dat ε.size ((r.drop off).take len ++ List.replicate k zr)) trivial fun ids' A h1 h2 => by
    refine ⟨fun _ => ⟨_, et, alloc_new _ _, ?_, ?_, fun i row j x hi hj => ?_⟩, hlv⟩
    · rw [toVs_len, hlen, Array.size_append, hboth.len, List.length_append, toVs_len, toVs_len]
      have : ((r.drop off).take len).length = len := by simp; omega
      rw [this, List.length_replicate]; dsimp only; omega
    · rw [toVs_app]; exact hboth.wid
    · rw [toVs_app] at hi
      obtain ⟨v, hv, hrep⟩ := hboth.rep i row j x hi hj
      have hlt := (Array.getElem?_eq_some_iff.1 hv).1
      refine ⟨v, by dsimp only; rw [Nat.zero_add, Array.getElem?_append_left hlt]; exact hv, hrep.mono hgo h2 h1 ?_⟩
      have hm : row ∈ toVs ((r.drop off).take len ++ List.replicate k zr) := by rw [toVs_app]; exact List.mem_of_getElem? hi
      exact toVs_below M _ row hm x (List.mem_of_getElem? hj))
  refine OpOk.made (val := .slice (some ⟨w.heap.size, 0, none⟩) (len + k) newCap) (hdr.trans hchg) (by simp only [execOp, ho, resolve, invoke, builtin, Sem.run_bind, Sem.run_pure, Result.andThen_ok, List.map_toArray, List.map_cons, List.map_nil, hq, ex, hrun]) ?_ (.sl _ _ _ _ (.inr rfl))
  refine .sl _ _ _ _ _ _ hcap fun _ => ⟨_, et, by rw [upd_same]; exact alloc_new _ _, by rw [upd_same]; simp, ?_⟩
  rw [upd_same, Array.size_append, hboth.len, hrest, List.length_append, toVs_len, toVs_len, List.length_replicate]
  have : ((r.drop off).take len).length = len := by simp; omega
  rw [this]
  dsimp only
  rw [← Nat.add_mul, show len + k + (newCap - (len + k)) = 0 + newCap by omega]
  omega
theorem appendZ (ht : TabOk P tab) {ty tn : TypeId} {s x : Operand} {t : List V} {h : List (Nat × B)} {b : Nat} {K : V → List (Nat × B) → Prop} (ε τn : Ty) (zr : List D) (hε : sliceElem tab ty = some ε) (hz : ZeroRow ε.zero zr) {kn kq : IntKind} (hτn : tab tn = some τn) (hkn : τn.kind = .int kn)
    {n off len cap : Nat} (k : Nat) {r : List (List D)} (hs : evS (tAt t) s = .sx n ε.size off len cap) (hx : evS (tAt t) x = .c (.int kq (k : Int))) (hr : hAt h n = some (.dat ε.size r)) (hc : r ≠ [] ∧ off + len ≤ r.length ∧ cap < len + k ∧ 0 < k ∧ len + k < 2147483648) (hsz : Nat.blt 0 ε.size = true) (hby : Nat.ble ε.bytes 4096 = true)
    (hk : hSet h b (.dat ε.size ((r.drop off).take len ++ List.replicate k zr)) fun h => K (.sl b ε.size 0 (len + k)) h) : OpB P (.call ⟨.builtin .append, #[s, x], #[ty, tn]⟩) t h b K := by
  obtain ⟨l', hk, e⟩ := hSet_of hk
  exact ⟨appendZ_aop (M := Lt b) ht (Nat.lt_irrefl b) (K := fun v h' => ∃ l, h' = hAt l ∧ K v l) hε hτn hkn hs hx hr hc.1 hc.2.1 hc.2.2.1 hc.2.2.2.1 (by simpa [Nat.blt_eq] using hsz) hc.2.2.2.2 (Nat.le_of_ble_eq_true hby) hz ⟨l', e.symm, hk⟩⟩

/-! ### copy -/
theorem copyB (ht : TabOk P tab) {d s : Operand} {dT sT : TypeId} {t : List V} {h : List (Nat × B)} {b : Nat} {K : V → List (Nat × B) → Prop} (ε : Ty) (hε : sliceElem tab dT = some ε) {n off len m : Nat} (k : Nat) {r src : List (List D)}
    (hd : evS (tAt t) d = .sl n ε.size off len) (hn : hAt h n = some (.dat ε.size r)) (hc : r ≠ [] ∧ off ≤ r.length ∧ k = min m len) (hs : CopySrc (hAt h) ε.size k (evS (tAt t) s) m src)
    (hk : hSet h n (.dat ε.size (r.take off ++ (src ++ r.drop (off + k)))) fun h => K (V.int k) h) : OpB P (.call ⟨.builtin .copy, #[d, s], #[dT, sT]⟩) t h b K := by
  obtain ⟨l', hk, e⟩ := hSet_of hk
  exact ⟨copy_aop (M := Lt b) ht (K := fun v h' => ∃ l, h' = hAt l ∧ K v l) hε hd hn hc.1 hc.2.1 hc.2.2 hs ⟨l', e.symm, hk⟩⟩
def srcName : V → List Nat
  | .sl n _ _ _ => [n]
  | .sx n _ _ _ _ => [n]
  | _ => []
theorem CopySrc.congr {h h2 : Hp} {sz k m : Nat} {x : V} {src : List (List D)} (hs : CopySrc h sz k x m src) (he : ∀ n ∈ srcName x, h2 n = h n) : CopySrc h2 sz k x m src := by
  cases hs with
  | lst rows cl hk => exact .lst rows cl hk
  | sl n off len r hn hr hk hl => exact .sl n off _ r (by rw [he n (by simp [srcName])]; exact hn) hr hk hl
  | sx n off len cap r hn hr hk hl => exact .sx n off _ cap r (by rw [he n (by simp [srcName])]; exact hn) hr hk hl
theorem dcopyB (ht : TabOk P tab) {d s : Operand} {dT sT : TypeId} {t : List V} {h : List (Nat × B)} {b : Nat} {K : V → List (Nat × B) → Dyn → Prop} (ε : Ty) (hε : sliceElem tab dT = some ε) {n off len m : Nat} (k : Nat) {r src : List (List D)}
    (hd : evS (tAt t) d = .sl n ε.size off len) (hn : hAt h n = some (.dat ε.size r)) (hc : r ≠ [] ∧ off ≤ r.length ∧ k = min m len) (hs : CopySrc (hAt h) ε.size k (evS (tAt t) s) m src)
    (hk : listK (srcName (evS (tAt t) s)) fun hr => hSet h n (.dat ε.size (r.take off ++ (src ++ r.drop (off + k)))) fun h => K (V.int k) h ⟨hr, [n], [], false⟩) : DOpB P (.call ⟨.builtin .copy, #[d, s], #[dT, sT]⟩) t h b K := by
  obtain ⟨l', hk, e⟩ := hSet_of (listK_of hk)
  refine ⟨_, V.int k, [(n, some (.dat ε.size (r.take off ++ (src ++ r.drop (off + k)))))], l', rfl, ⟨by simp [namesU], by simp, fun h2 he M hf hb => ?_⟩, e, hk⟩
  exact copy_aop ht hε hd (by rw [he n (.inr (by simp))]; exact hn) hc.1 hc.2.1 hc.2.2 (hs.congr fun n hn => he n (.inl hn)) ⟨rfl, rfl⟩

/-! ### operations of open order that leave the heap -/
theorem DOpB.still {op : Op} {t : List V} {h : List (Nat × B)} {b : Nat} {K : V → List (Nat × B) → Dyn → Prop} {v : V} (hrun : ∀ (h2 : Hp) (M : Nm), AOp P op (evS (tAt t)) h2 M b fun r h' => r = v ∧ h' = h2) (hk : K v h ⟨[], [], [], false⟩) : DOpB P op t h b K :=
  ⟨_, v, [], h, rfl, ⟨by simp [namesU], by simp, fun h2 _ M _ _ => hrun h2 M⟩, rfl, hk⟩
theorem cutSx_aop (ht : TabOk P tab) {ty : TypeId} {x : Operand} {lo hi : Option Operand} {e : Operand → V} {h : Hp} {M : Nm} {nm : Nat} {K : V → Hp → Prop} {ε : Ty} (hε : sliceElem tab ty = some ε) {n off len cap : Nat} {a b : Nat} (hx : e x = .sx n ε.size off len cap)
    (hlo : atO e lo 0 a) (hhi : atO e hi len b) (h1 : a ≤ b) (h2 : b ≤ cap) (k : K (.sx n ε.size (off + a) (b - a) (cap - a)) h) : AOp P (.slice ty x lo hi none) e h M nm K := by
  refine AOp.ok fun F ids w ac o ho hh hr hb => ⟨_, _, k, ?_⟩
  obtain ⟨τ, et, hτ, hk, he⟩ := sliceElem_some hε
  have hd := slice_desc ht hτ hk
  have hxv := hr x (by simp [Op.operands])
  have hxb := hb x (by simp [Op.operands])
  rw [hx] at hxv hxb
  have p1 := optVal (ρ := ac.eval) hlo fun y hy => hr y (by simp only [Op.operands, Array.toList_append, List.mem_append]; simp at hy ⊢; simp [hy])
  have p2 := optVal (ρ := ac.eval) hhi fun y hy => hr y (by simp only [Op.operands, Array.toList_append, List.mem_append]; simp at hy ⊢; simp [hy])
  generalize hq : ac.eval x = xv at hxv
  cases hxb with
  | sx _ _ _ _ _ hn =>
  cases hxv with
  | sx _ _ _ _ _ ad hl hcc =>
  have hrun := sliceBounds_run (P := P) (w := w) (len := len) p1 p2 h1 h2
  refine OpOk.still (val := .slice (if cap = a then ad else ad.map (·.add (a * ε.size))) (b - a) (cap - a)) hh (Nm.le_add _ _) ?_ (.sx _ _ _ _ _ _ (by omega) fun h0 => ?_) (.sx _ _ _ _ _ hn)
  · simp only [execOp, ho, hq, Instr.sliceAt, Sem.run_bind, hd, Result.andThen_ok, Instr.slice, Option.map_none, hrun, (ht _ _ he).sizeOf, Sem.run_pure]
  · have hca : cap ≠ a := by omega
    obtain ⟨arr, T, hs, rfl, ha⟩ := hcc (by omega)
    refine ⟨arr, T, hs, ?_, by rw [show off + a + (cap - a) = off + cap by omega]; exact ha⟩
    rw [if_neg hca, Option.map_some, add_none, Nat.add_mul, Nat.add_assoc]
theorem dcutSx (ht : TabOk P tab) {ty : TypeId} {x : Operand} {lo hi : Option Operand} {t : List V} {h : List (Nat × B)} {bn : Nat} {K : V → List (Nat × B) → Dyn → Prop} (ε : Ty) (hε : sliceElem tab ty = some ε) {n off len cap : Nat} (a b : Nat) (hx : evS (tAt t) x = .sx n ε.size off len cap)
    (hlo : atO (evS (tAt t)) lo 0 a) (hhi : atO (evS (tAt t)) hi len b) (h12 : a ≤ b ∧ b ≤ cap) (k : K (.sx n ε.size (off + a) (b - a) (cap - a)) h ⟨[], [], [], false⟩) : DOpB P (.slice ty x lo hi none) t h bn K :=
  DOpB.still (fun h2 M => cutSx_aop ht hε hx hlo hhi h12.1 h12.2 ⟨rfl, rfl⟩) k
/-- s[a:b] of a slice whose room is known; the room is forgotten -/
theorem cutSl (ht : TabOk P tab) {ty : TypeId} {x : Operand} {lo hi : Option Operand} {t : List V} {h : List (Nat × B)} {bn : Nat} {K : V → List (Nat × B) → Prop} (ε : Ty) (hε : sliceElem tab ty = some ε) {n off len cap : Nat} (a b : Nat) (hx : evS (tAt t) x = .sx n ε.size off len cap)
    (hlo : atO (evS (tAt t)) lo 0 a) (hhi : atO (evS (tAt t)) hi len b) (h12 : a ≤ b ∧ b ≤ cap) (k : K (.sl n ε.size (off + a) (b - a)) h) : OpB P (.slice ty x lo hi none) t h bn K := by
  refine ⟨fun F ids w ac o ho hh hr hb next Q hn => cutSx_aop (nm := bn) (K := fun v h' => h' = hAt h ∧ v = .sx n ε.size (off + a) (b - a) (cap - a)) ht hε hx hlo hhi h12.1 h12.2 ⟨rfl, rfl⟩ F ids w ac o ho hh hr hb next Q ?_⟩
  rintro v h' ids' w' val ⟨rfl, rfl⟩ hc hv hvb
  exact hn _ _ ids' w' val ⟨h, rfl, k⟩ hc (unSx_rep hv) (unSx_below hvb)

/-! ### whether slices overlap -/
theorem overlaps_no (w : World) (tS tR e : TypeId) (ht : P.underlying tS = some (.slice e)) (size : Nat) (hz : ∀ w, (Go.sizeOf e).run P w = .ok size w) (ba oa bb ob la ca lb cb : Nat) (hne : ba ≠ bb) {arrA arrB : Array Value} {tA tB : TypeId} {fA : Nat × Nat}
    (hA : w.heap[ba]? = some (.cells arrA tA fA)) (hB : w.heap[bb]? = some (.cells arrB tB (0, 0))) (hA0 : arrA.size ≠ 0) (hB0 : arrB.size ≠ 0) :
    (Extern.SlicesOverlaps.overlaps #[tS, tS] #[tR] #[.slice (some ⟨ba, oa, none⟩) la ca, .slice (some ⟨bb, ob, none⟩) lb cb]).run P w = .ok (.bool false) w := by
  have hnb : (ba != bb) = true := by simpa using hne
  have hnb' : (ba == bb) = false := by simpa using hne
  change Sem.run P (α := Value) (do
    let some t := (#[tS, tS] : Array TypeId)[0]? | stuck "slices.overlaps: no parameter types"
    let .slice elem ← underlying t | stuck "slices.overlaps: slice type expected"
    let size ← sizeOf elem
    match (some (⟨ba, oa, none⟩ : Addr) : Option Addr), (some (⟨bb, ob, none⟩ : Addr) : Option Addr) with
    | some a, some b =>
      if la = 0 ∨ lb = 0 ∨ size = 0 then pure (Value.bool false)
      else if a.block != b.block && (← frozen a) && (← frozen b) then unsupported .addressObserved
      else do
        if a.block != b.block then do
          noView a; noView b
          if ← mayBeOne a b then return Value.bool ((← choose (.extern "sameAddr.stringBytes" 2)) == 1)
        pure (Value.bool (a.block == b.block && a.off < b.off + lb * size && b.off < a.off + la * size))
    | _, _ => pure (Value.bool false)) w = _
  have sA : w.shape? ba = some (tA, arrA.size) := by simp [World.shape?, hA]
  have sB : w.shape? bb = some (tB, arrB.size) := by simp [World.shape?, hB]
  have fB : ∀ o, w.frozen? ⟨bb, o, none⟩ = false := fun o => frozen_of hB
  by_cases h0 : la = 0 ∨ lb = 0 ∨ size = 0
  · simp [run_underlying ht, hz, h0]
  · obtain ⟨na, hna⟩ : ∃ n, arrA.size = n + 1 := ⟨arrA.size - 1, by omega⟩
    obtain ⟨nb, hnb2⟩ : ∃ n, arrB.size = n + 1 := ⟨arrB.size - 1, by omega⟩
    rw [hna] at sA
    rw [hnb2] at sB
    by_cases c1 : w.frozen? ⟨ba, oa, none⟩ = true
    · simp [run_underlying ht, hz, h0, hnb, hnb', frozen, noView, viewAt, mayBeOne, stringish, shape, Sem.run, sA, sB, fB, c1]
    · by_cases c2 : w.frozen? ⟨ba, na + 1, none⟩ = true
      · simp [run_underlying ht, hz, h0, hnb, hnb', frozen, noView, viewAt, mayBeOne, stringish, shape, Sem.run, sA, sB, fB, c1, c2]
      · simp [run_underlying ht, hz, h0, hnb, hnb', frozen, noView, viewAt, mayBeOne, stringish, shape, Sem.run, sA, sB, fB, c1, c2]
theorem overlapsB (ht : TabOk P tab) {f : FuncId} {fn : Func} {tS tR : TypeId} (hf : P.funcs[f]? = some fn) (hname : (fn.name == "runtime.NumGoroutine") = false) (hbn : fn.body.isNone = true) (hn : Extern.findNext fn = none) (he : Extern.find fn = some (Extern.SlicesOverlaps.overlaps #[tS, tS] #[tR]))
    {ε : Ty} (hε : sliceElem tab tS = some ε) {row : List D} {cl : Bool} {n off len : Nat} {x : V} {c : Option Nat} (hx : InBlk n ε.size x off len c) {r : List (List D)} {h : List (Nat × B)} {b : Nat} {K : V → List (Nat × B) → Prop} (hr : hAt h n = some (.dat ε.size r)) (hr0 : r ≠ []) (hs0 : 0 < ε.size) (hl0 : 0 < len)
    (k : K (V.bool false) h) : CallB P f [.lst ε.size [row] cl, x] h b K := by
  refine ⟨fun F ids w vals hh hsz hv => .inr ?_⟩
  obtain ⟨τ, et, hτ, hk, hte⟩ := sliceElem_some hε
  obtain ⟨d, hd, hu, hfit⟩ := (ht _ _ hτ).desc
  have hu : P.underlying tS = some (.slice et) := by
    rw [hk] at hfit
    generalize τ.agg = g at hfit
    cases hfit; exact hu
  have hs2 : vals.size = 2 := hsz
  have ev : vals = #[vals[0]'(by omega), vals[1]'(by omega)] := by
    apply Array.ext
    · simp [hs2]
    · intro i h1 h2
      match i, h1 with
      | 0, _ => rfl
      | 1, _ => rfl
      | i + 2, h1 => omega
  have h0 := hv 0 _ (vals[0]'(by omega)) rfl (by simp [hs2])
  have h1 := hv 1 _ (vals[1]'(by omega)) rfl (by simp [hs2])
  generalize vals[0]'(by omega) = v0 at ev h0
  generalize vals[1]'(by omega) = v1 at ev h1
  subst ev
  obtain ⟨cap, _, h1⟩ := hx.rep h1
  obtain ⟨arrB, TB, b1, b2, b3, b4⟩ := (hh.blk n _ hr).1 hr0
  have hB0 : arrB.size ≠ 0 := by
    have := List.length_pos_iff.2 hr0
    have h3 : 1 * ε.size ≤ (toVs r).length * ε.size := Nat.mul_le_mul_right _ (by rw [toVs_len]; exact this)
    omega
  refine ⟨.bool false, V.bool false, hAt h, ids, w, ?_, ⟨h, rfl, k⟩, Chg.skip hh (fun _ hk => .inl hk), .c _, .c _⟩
  rw [run_callFunc_extern hf hname hbn hn he]
  cases h0 with
  | lst _ _ _ _ hd0 _ =>
  cases hd0 with
  | lst _ _ ba oa ca cell hcap hbb hA hw hcell hdd =>
  cases h1 with
  | sx _ _ _ _ _ ad hl hcc =>
  have hrow : row.length = ε.size := hw row (by simp)
  obtain ⟨d0, hd0⟩ : ∃ d0, row[0]? = some d0 := ⟨row[0]'(by omega), by simp⟩
  have hc0 := hcell 0 row 0 d0 rfl hd0
  have hheap : ∃ arrA tA fA, w.heap[ba]? = some (.cells arrA tA fA) ∧ arrA.size ≠ 0 := by
    unfold World.cell? at hc0
    split at hc0
    · next c t f hq =>
      refine ⟨c, t, f, hq, ?_⟩
      simp only [Option.isSome_none, Bool.false_eq_true, if_false] at hc0
      have := (Array.getElem?_eq_some_iff.1 hc0).1
      omega
    · cases hc0
  obtain ⟨arrA, tA, fA, g1, g2⟩ := hheap
  have hne : ba ≠ (ids n).1 := fun e => hA (.inr ⟨n, _, hr, dat_real hr0, e.symm⟩)
  have hz : cap ≠ 0 := by omega
  obtain ⟨_, _, _, rfl, _⟩ := hcc hz
  rw [overlaps_no w tS tR et hu ε.size (ht _ _ hte).sizeOf ba oa (ids n).1 _ _ _ _ _ hne g1 b1 g2 hB0]
  rfl
/-- a slice whose room is not known has some room -/
theorem LSpec.room {f : FuncId} {n sz len : Nat} {args : List V} {H : List (Nat × B)} {N : Nat} {r : V} {H' : List (Nat × B)} {N' : Nat} (hs : ∀ cap, len ≤ cap → LSpec P f (.sx n sz 0 len cap :: args) H N r H' N') : LSpec P f (.ac n sz len :: args) H N r H' N' := by
  obtain ⟨a1, a2, _⟩ := hs len (Nat.le_refl _)
  refine ⟨fun x hx => ?_, a2, fun F ids w vals hh hsz hv => ?_⟩
  · rcases List.mem_cons.1 hx with rfl | hx
    · have := a1 _ (List.mem_cons_self); cases this; exact .ac _ _ _ (by assumption)
    · exact a1 x (List.mem_cons_of_mem _ hx)
  · have h0 : 0 < vals.size := by rw [hsz]; simp
    obtain ⟨cap, _, hr⟩ := InBlk.rep (.ac len) (hv 0 _ vals[0] rfl (by simp))
    have hlc : len ≤ cap := by generalize vals[0] = v0 at hr; cases hr; assumption
    obtain ⟨_, _, h3⟩ := hs cap hlc
    refine h3 F ids w vals hh hsz fun i x v hx hvi => ?_
    cases i with
    | zero =>
      simp only [List.getElem?_cons_zero, Option.some.injEq] at hx
      subst hx
      have : v = vals[0] := by simp [h0] at hvi; exact hvi.symm
      rw [this]; exact hr
    | succ i => exact hv (i + 1) x v (by simpa using hx) hvi
end
end Go.Proofs.Ytmihhkcbbdpnaaa.Abs
