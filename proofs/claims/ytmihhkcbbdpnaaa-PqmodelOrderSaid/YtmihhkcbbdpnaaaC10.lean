/- The abstract machine, part 25: operations that are shown apart: make, copy, cap, slices whose room is known. -/
import Derived.Test.YtmihhkcbbdpnaaaC9
namespace Go.Proofs.Ytmihhkcbbdpnaaa.Abs
set_option linter.unusedVariables false
set_option linter.unusedSimpArgs false
section
variable {P : Program} {tab : Tab}

theorem AOp.ok {op : Op} {e : Operand → V} {h : Hp} {M : Nm} {nm : Nat} {K : V → Hp → Prop}
    (hok : ∀ (F : Nat → Prop) (ids : Nat → Nat × Nat) (w : World) (a : Act) (o : Oper), o.op = op → RepH F ids w h M → (∀ x ∈ op.operands.toList, RepV (Avoid F h ids) ids w (e x) (a.eval x)) → (∀ x ∈ op.operands.toList, (e x).Below M) →
      ∃ v h', K v h' ∧ OpOk F ids w h M ((execOp a.eval o).run P w) v h' (M.add nm)) : AOp P op e h M nm K := by
  intro F ids w a o ho hh h1 h2 next Q hn
  obtain ⟨v, h', hK, val, w', ids', hrun, hc, hv, hb⟩ := hok F ids w a o ho hh h1 h2
  have hadd : (M.add nm).le (M.call nm) := by rintro k (hk | rfl); exact .inl hk; exact .inr ⟨Nat.le_refl _, by omega⟩
  have := hn v h' ids' w' val hK (hc.trans (Chg.skip hc.heap hadd)) hv (hb.mono hadd)
  unfold Oper.wp
  rcases hrun with hrun | ⟨hrun, rfl⟩
  · rw [hrun]; exact this
  · rw [hrun]; exact this
theorem int_val {A : Nat → Prop} {ids : Nat → Nat × Nat} {w : World} {k : IntKind} {n : Int} {v : Value} (h : RepV A ids w (.c (.int k n)) v) : v = .int k n := by cases h; rfl

/-! ### make -/
/-- a row of zeros, as data: a slice that is nil may stand as an empty one -/
inductive ZeroRow : List Value → List D → Prop
  | nil : ZeroRow [] []
  | c (v : Value) {vs : List Value} {ds : List D} (h1 : v.oneCell' = true) (h : ZeroRow vs ds) : ZeroRow (v :: vs) (.c v :: ds)
  | sl (sz : Nat) {vs : List Value} {ds : List D} (h : ZeroRow vs ds) : ZeroRow (.slice none 0 0 :: vs) (.lst sz [] :: ds)
theorem ZeroRow.get {vs : List Value} {ds : List D} (h : ZeroRow vs ds) : ds.length = vs.length ∧ ds.all D.leaf = true ∧ ∀ (A : Nat → Prop) (w : World) (i : Nat) (v : Value) (d : D), vs[i]? = some v → ds[i]? = some d → RepD A w d v := by
  induction h with
  | nil => exact ⟨rfl, rfl, by simp⟩
  | c v h1 h ih =>
    obtain ⟨e1, e2, e3⟩ := ih
    refine ⟨by simp [e1], by simp [e2, D.leaf, h1], fun A w i u d hu hd => ?_⟩
    cases i with
    | zero => simp at hu hd; subst hu; subst hd; exact .c _ h1
    | succ i => exact e3 A w i u d (by simpa using hu) (by simpa using hd)
  | sl sz h ih =>
    obtain ⟨e1, e2, e3⟩ := ih
    refine ⟨by simp [e1], by simp [e2, D.leaf], fun A w i u d hu hd => ?_⟩
    cases i with
    | zero => simp at hu hd; subst hu; subst hd; exact .emp _ _ _
    | succ i => exact e3 A w i u d (by simpa using hu) (by simpa using hd)

theorem makeSlice_aop (ht : TabOk P tab) {M : Nm} {nm : Nat} (hfresh : ¬ M nm) {ty : TypeId} {l c : Operand} {e : Operand → V} {h : Hp} {K : V → Hp → Prop} {ε : Ty} (hε : sliceElem tab ty = some ε) {n : Nat} (hl : e l = V.int n) (hc : e c = V.int n)
    (hn : n < 2147483648) (hby : ε.bytes ≤ 4096) {zr : List D} (hz : ZeroRow ε.zero zr) (hK : K (.ac nm ε.size n) (upd h nm (some (.dat ε.size (List.replicate n zr))))) : AOp P (.makeSlice ty l c) e h M nm K := by
  refine AOp.ok fun F ids w a o ho hh h1 h2 => ⟨_, _, hK, ?_⟩
  obtain ⟨et, hd, hte⟩ := sliceElem_desc ht hε
  have el : a.eval l = .int .i64 n := by have := h1 l (by simp [Op.operands]); rw [hl] at this; exact int_val this
  have ec : a.eval c = .int .i64 n := by have := h1 c (by simp [Op.operands]); rw [hc] at this; exact int_val this
  obtain ⟨i, hi1, hi2⟩ := hte.typeInfo w
  obtain ⟨z, hz1, hz2⟩ := hte.zero w
  have hzl := hte.zlen
  obtain ⟨zl, zlf, zrep⟩ := hz.get
  let zc : Array Value := if n * ε.size = 0 then #[] else z.cells
  obtain ⟨arr, harr⟩ : ∃ arr, arr = (Array.range (n * ε.size)).map (zc[· % zc.size]!) := ⟨_, rfl⟩
  have hbig : i.bytes * n ≤ 8796093022208 := Nat.le_trans (Nat.mul_le_mul (show i.bytes ≤ 4096 by omega) (show n ≤ 2147483648 by omega)) (by omega)
  have hbig2 : ((i.bytes : Int) * n) ≤ 8796093022208 := by rw [← Int.natCast_mul]; omega
  have hwr : IntKind.i64.wrap (n : Int) = n := by rw [IntKind.wrap_i64]; omega
  have hrun : (execOp a.eval o).run P w = .ok (.value (.slice (some ⟨w.heap.size, 0, none⟩) n n)) (w.alloc (.cells arr et)) := by
    have hlarge2 : ¬ ((n : Int) < 0) := by omega
    have hlarge3 : ¬ (281474976710656 < ((i.bytes : Int) * n)) := by omega
    by_cases h0 : n * ε.size = 0
    · have hz0 : zc = #[] := if_pos h0
      rw [harr, hz0]
      simp [execOp, ho, el, ec, Instr.makeSlice, hd, asInt, asIntOf, hi1, hwr, hlarge2, hlarge3, hte.sizeOf, h0, newRow]
    · have hz0 : zc = z.cells := if_neg h0
      rw [harr, hz0]
      simp [execOp, ho, el, ec, Instr.makeSlice, hd, asInt, asIntOf, hi1, hwr, hlarge2, hlarge3, hte.sizeOf, h0, hz1, newRow]
  have hasz : arr.size = n * ε.size := by rw [harr]; simp
  have hcell : ∀ i j d, i < n → zr[j]? = some d → ∃ v, arr[i * ε.size + j]? = some v ∧ ∀ A w, RepD A w d v := by
    intro i j d hi hj
    have hjl : j < ε.size := by rw [← hzl, ← zl]; exact (List.getElem?_eq_some_iff.1 hj).1
    have hlt := row_in hi hjl
    have hne : n * ε.size ≠ 0 := by omega
    have hzcs : zc = ε.zero.toArray := by simp only [zc]; rw [if_neg hne, hz2]
    have hjz : j < ε.zero.length := by omega
    have hmod : (i * ε.size + j) % ε.size = j := by rw [Nat.mul_comm, Nat.mul_add_mod, Nat.mod_eq_of_lt hjl]
    refine ⟨ε.zero[j], ?_, fun A w => zrep A w j _ d (by simp [hjz]) hj⟩
    rw [harr, Array.getElem?_map, Array.getElem?_range, if_pos hlt, hzcs]
    simp only [Option.map_some, List.size_toArray, hzl, hmod, Option.some.injEq]
    rw [getElem!_pos _ _ (by simpa using hjz)]
    simp
  have hrow : ∀ (i : Nat) (row : List V), (toVs (List.replicate n zr))[i]? = some row → i < n ∧ row = zr.map D.toV := by
    intro i row hi
    rw [toVs_get, List.getElem?_replicate] at hi
    split at hi
    · next hlt => simp at hi; exact ⟨hlt, hi.symm⟩
    · cases hi
  have hchg := Chg.new hh hfresh (.cells arr et) (.dat ε.size (List.replicate n zr)) trivial fun ids' A _ _ => by
    refine ⟨fun _ => ⟨arr, et, alloc_new _ _, by simp [toVs_len, hasz], fun row hr => ?_, fun i row j x hi hj => ?_⟩, fun row hr => ?_⟩
    · obtain ⟨k, hk⟩ := List.getElem?_of_mem hr
      rw [(hrow k row hk).2, List.length_map, zl, hzl]
    · obtain ⟨hlt, rfl⟩ := hrow i row hi
      rw [List.getElem?_map, Option.map_eq_some_iff] at hj
      obtain ⟨d, hj, rfl⟩ := hj
      obtain ⟨v, hv, hrep⟩ := hcell i j d hlt hj
      exact ⟨v, by simpa using hv, (hrep A _).toV⟩
    · rw [List.eq_of_mem_replicate hr]; exact zlf
  refine OpOk.made hchg hrun ?_ (.ac _ _ _ (.inr rfl))
  by_cases h0 : n = 0
  · subst h0; exact .ac0 _ _ _
  · refine .ac1 _ _ _ _ h0 (.sl _ _ _ _ _ _ (Nat.le_refl _) fun _ => ⟨arr, et, ?_, ?_, ?_⟩)
    · rw [upd_same]; exact alloc_new _ _
    · rw [upd_same]; simp
    · rw [upd_same, hasz]; simp
/-- make of a slice, as long as its room -/
theorem makeB (ht : TabOk P tab) {ty : TypeId} {l c : Operand} {t : List V} {h : List (Nat × B)} {b : Nat} {K : V → List (Nat × B) → Prop} (n : Nat) (zr : List D) (ε : Ty) (hε : sliceElem tab ty = some ε) (hz : ZeroRow ε.zero zr) (hl : evS (tAt t) l = V.int n) (hc : evS (tAt t) c = V.int n)
    (hn : n < 2147483648) (hby : Nat.ble ε.bytes 4096 = true) (k : hSet h b (.dat ε.size (List.replicate n zr)) fun h => K (.ac b ε.size n) h) : OpB P (.makeSlice ty l c) t h b K := by
  obtain ⟨l', hk, e⟩ := hSet_of k
  exact ⟨makeSlice_aop (M := Lt b) ht (Nat.lt_irrefl b) (K := fun v h' => ∃ l, h' = hAt l ∧ K v l) hε hl hc hn (Nat.le_of_ble_eq_true hby) hz ⟨l', e.symm, hk⟩⟩

/-! ### copy -/
/-- the first k rows of a slice -/
inductive CopySrc (h : Hp) (sz k : Nat) : V → Nat → List (List D) → Prop
  | lst (rows : List (List D)) (cl : Bool) (hk : k ≤ rows.length) : CopySrc h sz k (.lst sz rows cl) rows.length (rows.take k)
  | sl (n off len : Nat) (r : List (List D)) (hn : h n = some (.dat sz r)) (hr : r ≠ []) (hk : k ≤ len) (hl : off + k ≤ r.length) : CopySrc h sz k (.sl n sz off len) len ((r.drop off).take k)
  | sx (n off len cap : Nat) (r : List (List D)) (hn : h n = some (.dat sz r)) (hr : r ≠ []) (hk : k ≤ len) (hl : off + k ≤ r.length) : CopySrc h sz k (.sx n sz off len cap) len ((r.drop off).take k)
theorem CopySrc.sizes {h : Hp} {sz k m : Nat} {x : V} {src : List (List D)} (hs : CopySrc h sz k x m src) : src.length = k ∧ k ≤ m := by
  cases hs with
  | lst rows cl hk => exact ⟨by simp [hk], hk⟩
  | sl n off len r hn hr hk hl => exact ⟨by simp; omega, hk⟩
  | sx n off len cap r hn hr hk hl => exact ⟨by simp; omega, hk⟩
theorem firstCells_len (size k : Nat) (ad : Option Addr) (l l' c c' : Nat) : Builtin.firstCells size k (.slice ad l c) = Builtin.firstCells size k (.slice ad l' c') := by cases ad <;> rfl
theorem RepR.first {A : Nat → Prop} {ids : Nat → Nat × Nat} {w : World} {p : Nat × Nat} {sz off k len cap : Nat} {r : List (List V)} {ad : Option Addr} (h : RepR A ids w p sz r) (hk : k ≤ cap) (hr : off + k ≤ r.length)
    (ha : cap ≠ 0 → ad = some ⟨p.1, p.2 + off * sz, none⟩) : ∃ arr, (Builtin.firstCells sz k (.slice ad len cap)).run P w = .ok arr w ∧ StandsR A ids w sz ((r.drop off).take k) arr := by
  obtain ⟨a, c, e, hc, arr, h1, h2⟩ := RepR.reads (P := P) h hk hr ha
  have hl : ((r.drop off).take k).length = k := by simp; omega
  refine ⟨arr, ?_, h2⟩
  rw [hl] at h1
  rw [firstCells_len sz k ad len k cap cap]; exact h1
theorem CopySrc.sound {F : Nat → Prop} {ids : Nat → Nat × Nat} {w : World} {h : Hp} {nx : Nm} (hh : RepH F ids w h nx) {sz k m : Nat} {x : V} {src : List (List D)} (hs : CopySrc h sz k x m src) {v : Value} (hx : RepV (Avoid F h ids) ids w x v) :
    ∃ a c, v = .slice a m c ∧ ∃ arr, (Builtin.firstCells sz k v).run P w = .ok arr w ∧ StandsR (Avoid F h ids) ids w sz (toVs src) arr := by
  cases hs with
  | lst rows cl hk =>
    cases hx with
    | lst _ _ _ _ hd _ =>
      have h2 : ∃ a c, v = .slice a rows.length c ∧ rows.length ≤ c := by
        obtain ⟨a, c, e, hc, _⟩ := hd.reads (P := P) (A := Avoid F h ids) (ids := ids)
        exact ⟨a, c, by rw [e, toVs_len], by simpa [toVs_len] using hc⟩
      obtain ⟨a, c, e, hc⟩ := h2
      subst e
      refine ⟨a, c, rfl, ?_⟩
      have hd' : RepD (Avoid F h ids) w (.lst sz (rows.take k)) (.slice a k c) := by
        cases hd with
        | emp => simp at hk; subst hk; simpa using RepD.emp sz a c
        | lst _ _ b o cap cell hcap hb hA hw hcell hdd =>
          have hl : (rows.take k).length = k := by simp [hk]
          have := RepD.lst (A := Avoid F h ids) (w := w) sz (rows.take k) b o c cell (by omega) hb hA (fun row hr => hw row (List.mem_of_mem_take hr)) (fun i row j d hi hj => by
            have hlt : i < k := by have := (List.getElem?_eq_some_iff.1 hi).1; omega
            rw [List.getElem?_take_of_lt hlt] at hi
            exact hcell i row j d hi hj) (fun i row j d hi hj => by
            have hlt : i < k := by have := (List.getElem?_eq_some_iff.1 hi).1; omega
            rw [List.getElem?_take_of_lt hlt] at hi
            exact hdd i row j d hi hj)
          rw [hl] at this
          exact this
      obtain ⟨_, _, _, _, arr, h1, h2⟩ := hd'.reads (P := P) (A := Avoid F h ids) (ids := ids)
      refine ⟨arr, ?_, h2⟩
      rw [toVs_len, List.length_take, Nat.min_eq_left hk] at h1
      rw [firstCells_len sz k a _ k c c]; exact h1
  | sl n off len r hn hr hk hl =>
    cases hx with
    | sl _ _ _ _ cap ad hlc hc =>
      refine ⟨ad, cap, rfl, ?_⟩
      obtain ⟨arr, h1, h2⟩ := RepR.first (P := P) (len := m) ((hh.blk n _ hn).1 hr) (off := off) (k := k) (cap := cap) (by omega) (by rw [toVs_len]; exact hl) fun h0 => by obtain ⟨_, _, _, h3, _⟩ := hc h0; exact h3
      exact ⟨arr, h1, by rw [toVs_cut]; exact h2⟩
  | sx n off len cap r hn hr hk hl =>
    cases hx with
    | sx _ _ _ _ _ ad hlc hc =>
      refine ⟨ad, cap, rfl, ?_⟩
      obtain ⟨arr, h1, h2⟩ := RepR.first (P := P) (len := m) ((hh.blk n _ hn).1 hr) (off := off) (k := k) (cap := cap) (by omega) (by rw [toVs_len]; exact hl) fun h0 => by obtain ⟨_, _, _, h3, _⟩ := hc h0; exact h3
      exact ⟨arr, h1, by rw [toVs_cut]; exact h2⟩
theorem CopySrc.leaves {F : Nat → Prop} {ids : Nat → Nat × Nat} {w : World} {h : Hp} {nx : Nm} (hh : RepH F ids w h nx) {sz k m : Nat} {x : V} {src : List (List D)} (hs : CopySrc h sz k x m src) {v : Value} (hx : RepV (Avoid F h ids) ids w x v) : leaves src := by
  cases hs with
  | lst rows cl hk =>
    cases hx with
    | lst _ _ _ _ hd _ => exact fun row hr => hd.leaves row (List.mem_of_mem_take hr)
  | sl n off len r hn hr hk hl => exact leaves_cut (hh.blk n _ hn).2 _ _
  | sx n off len cap r hn hr hk hl => exact leaves_cut (hh.blk n _ hn).2 _ _

/-- copying rows to the rows from off on: what lies behind the last row may be given so -/
theorem copy_aop (ht : TabOk P tab) {M : Nm} {nm : Nat} {d s : Operand} {dT sT : TypeId} {e : Operand → V} {h : Hp} {K : V → Hp → Prop} {ε : Ty} (hε : sliceElem tab dT = some ε) {n off len m k : Nat} {r src : List (List D)}
    (hd : e d = .sl n ε.size off len) (hn : h n = some (.dat ε.size r)) (hr : r ≠ []) (ho : off ≤ r.length) (hk : k = min m len) (hs : CopySrc h ε.size k (e s) m src)
    (hK : K (V.int k) (upd h n (some (.dat ε.size (r.take off ++ (src ++ r.drop (off + k))))))) : AOp P (.call ⟨.builtin .copy, #[d, s], #[dT, sT]⟩) e h M nm K := by
  refine AOp.ok fun F ids w a o hop hh h1 h2 => ⟨_, _, hK, ?_⟩
  obtain ⟨et, hdt, hte⟩ := sliceElem_desc ht hε
  have hdv := h1 d (by simp [Op.operands, Call.operands]); rw [hd] at hdv
  have hsv := h1 s (by simp [Op.operands, Call.operands])
  obtain ⟨sl1, sl2⟩ := hs.sizes
  have hlv := hs.leaves hh hsv
  obtain ⟨sa, sc, hse, arr, harr, hst⟩ := hs.sound (P := P) hh hsv
  generalize hsq : a.eval s = sv at *
  subst hse
  generalize hdq : a.eval d = dv at *
  cases hdv with
  | sl _ _ _ _ cap ad hlc hc =>
  obtain ⟨arr0, T0, hb0, hsz0, hwid, hcell⟩ := (hh.blk n _ hn).1 hr
  have hreal : (B.dat ε.size r).real = true := dat_real hr
  have hlt := (Array.getElem?_eq_some_iff.1 hb0).1
  have hkl : k ≤ len := by omega
  have hroom : (ids n).2 + off * ε.size + arr.toList.length ≤ arr0.size := by
    simp only [Array.length_toList, hst.len, toVs_len, sl1]
    by_cases h0 : k = 0
    · subst h0
      have : off * ε.size ≤ (toVs r).length * ε.size := Nat.mul_le_mul_right _ (by rw [toVs_len]; exact ho)
      omega
    · obtain ⟨arr1, T1, g1, _, g3⟩ := hc (by omega)
      rw [hb0] at g1; cases g1
      have : (off + k) * ε.size ≤ (off + cap) * ε.size := Nat.mul_le_mul_right _ (by omega)
      rw [Nat.add_mul] at this
      omega
  obtain ⟨arr', harr'⟩ : ∃ x, x = splice arr0 ((ids n).2 + off * ε.size) arr.toList := ⟨_, rfl⟩
  have hsz' : arr'.size = arr0.size := by rw [harr']; exact splice_size _ _ _
  have hget : ∀ j, arr'[j]? = if (ids n).2 + off * ε.size ≤ j ∧ j < (ids n).2 + off * ε.size + arr.toList.length then arr.toList[j - ((ids n).2 + off * ε.size)]? else arr0[j]? := by
    intro j; rw [harr']; exact splice_get _ _ _ _ hroom
  have hput : arr.toList = [] → World.put w (ids n).1 (.cells arr' T0 (0, 0)) = w := fun hz => by
    have : arr' = arr0 := by rw [harr', hz]; rfl
    rw [this]; exact put_self hb0
  have hone : ∀ v ∈ arr.toList, v.oneCell' = true := hst.oneCells (leaves_toVs hlv)
  have hstore : (stAt ad 0 arr.toList).run P w = .ok () (World.put w (ids n).1 (.cells arr' T0 (0, 0))) := by
    by_cases hz : arr.toList = []
    · rw [hput hz]
      cases ad <;> simp only [stAt, hz, storeCells] <;> rfl
    · have hpos : 0 < k * ε.size := by
        have := hst.len
        rw [toVs_len, sl1] at this
        rw [← this]; exact Nat.pos_of_ne_zero fun e => hz (by simpa using Array.eq_empty_of_size_eq_zero e)
      have hkp : 0 < k := Nat.pos_of_ne_zero fun e => by rw [e] at hpos; simp at hpos
      obtain ⟨_, _, _, rfl, _⟩ := hc (by omega)
      have hrun2 := storeCells_run P (ids n).1 T0 arr.toList hone w ((ids n).2 + off * ε.size) 0 arr0 hb0 (by omega)
      rw [if_neg hz] at hrun2
      simp only [stAt, add_none]
      rw [harr']
      exact hrun2
  have hrun : (execOp a.eval o).run P w = .ok (.value (.int .i64 k)) (World.put w (ids n).1 (.cells arr' T0 (0, 0))) := by
    have hmin : Nat.min m len = k := hk.symm
    cases ad with
    | none =>
      have e : World.put w (ids n).1 (.cells arr' T0 (0, 0)) = w := by simp only [stAt, Sem.run_pure, Result.ok.injEq, true_and] at hstore; exact hstore.symm
      rw [e]
      simp [execOp, hop, resolve, invoke, builtin, hdq, hsq, Builtin.copy_, hdt, Builtin.lenOf, hmin, hte.sizeOf, harr, goInt]
    | some b =>
      have e : (storeCells b arr.toList).run P w = .ok () (World.put w (ids n).1 (.cells arr' T0 (0, 0))) := by
        simp only [stAt] at hstore
        rw [← hstore]
        congr 2
      simp [execOp, hop, resolve, invoke, builtin, hdq, hsq, Builtin.copy_, hdt, Builtin.lenOf, hmin, hte.sizeOf, harr, goInt, e]
  have hgo : Goes (Avoid F h ids) w (World.put w (ids n).1 (.cells arr' T0 (0, 0))) := by
    refine ⟨Nat.le_of_eq (put_size _ _ _).symm, fun c _ hc => put_other _ _ _ _ fun e => hc (.inr ⟨n, _, hn, hreal, e.symm⟩), fun c arr1 T1 fz hc => ?_, fun c es k hc => ?_, ⟨rfl, rfl⟩, fun a => ?_⟩
    · by_cases e : c = (ids n).1
      · subst e
        rw [hb0] at hc; cases hc
        exact ⟨_, put_same _ _ _ hlt, hsz'⟩
      · exact ⟨arr1, by rw [put_other _ _ _ _ e]; exact hc, rfl⟩
    · by_cases e : c = (ids n).1
      · subst e; rw [hb0] at hc; cases hc
      · exact ⟨es, k, by rw [put_other _ _ _ _ e]; exact hc⟩
    · by_cases e : a.block = (ids n).1
      · exact frozen_cells (by rw [e]; exact hb0) (by rw [e, put_same _ _ _ hlt])
      · exact frozen_same (put_other _ _ _ _ e)
  have hbr : ∀ row ∈ toVs r, ∀ x ∈ row, x.Below M := toVs_below M r
  have hbs : ∀ row ∈ toVs src, ∀ x ∈ row, x.Below M := toVs_below M src
  have hsl : (toVs src).length = k := by rw [toVs_len, sl1]
  have hchg := Chg.write (b' := .dat ε.size (r.take off ++ (src ++ r.drop (off + k)))) hh hn hreal (.cells arr0 T0 (0, 0)) (.cells arr' T0 (0, 0)) hb0 (fun arr T fz e => by cases e; exact ⟨_, rfl, hsz'⟩) (fun es k e => by cases e) trivial fun A hA => by
    refine ⟨fun _ => ⟨arr', T0, put_same _ _ _ hlt, ?_, fun row hrow => ?_, fun i row j x hi hj => ?_⟩, ?_⟩
    · rw [hsz', toVs_len]
      simp only [List.length_append, List.length_take, List.length_drop, sl1, Nat.min_eq_left ho]
      rw [toVs_len] at hsz0
      simp only [Array.length_toList, hst.len, hsl] at hroom
      by_cases hc1 : off + k ≤ r.length
      · rw [show off + (k + (r.length - (off + k))) = r.length by omega]; exact hsz0
      · rw [show off + (k + (r.length - (off + k))) = off + k by omega, Nat.add_mul]; omega
    · rw [toVs_app, toVs_app] at hrow
      rcases List.mem_append.1 hrow with hrow | hrow
      · exact hwid row (by unfold toVs at hrow ⊢; rw [List.map_take] at hrow; exact List.mem_of_mem_take hrow)
      · rcases List.mem_append.1 hrow with hrow | hrow
        · exact hst.wid row hrow
        · exact hwid row (by unfold toVs at hrow ⊢; rw [List.map_drop] at hrow; exact List.mem_of_mem_drop hrow)
    · have hjr : j < row.length := (List.getElem?_eq_some_iff.1 hj).1
      have old : (toVs r)[i]? = some row → (i < off ∨ off + k ≤ i) → ∃ v, arr'[(ids n).2 + (i * ε.size + j)]? = some v ∧ RepV A ids (World.put w (ids n).1 (.cells arr' T0 (0, 0))) x v := by
        intro hi hio
        have hjs : j < ε.size := by rw [← hwid row (List.mem_of_getElem? hi)]; exact hjr
        obtain ⟨v, hv, hrep⟩ := hcell i row j x hi hj
        refine ⟨v, ?_, hrep.mono hgo hA (fun _ _ => rfl) (hbr row (List.mem_of_getElem? hi) x (List.mem_of_getElem? hj))⟩
        rw [hget, if_neg]
        · exact hv
        · simp only [Array.length_toList, hst.len, hsl]
          rcases hio with hio | hio
          · have := row_in (n := off) hio hjs; omega
          · have : (off + k) * ε.size ≤ i * ε.size := Nat.mul_le_mul_right _ hio
            rw [Nat.add_mul] at this; omega
      rw [toVs_app, toVs_app] at hi
      have hto : (toVs (r.take off)).length = off := by rw [toVs_len, List.length_take]; omega
      by_cases c1 : i < off
      · rw [List.getElem?_append_left (by omega)] at hi
        refine old ?_ (.inl c1)
        unfold toVs at hi ⊢
        rw [List.map_take, List.getElem?_take_of_lt c1] at hi; exact hi
      · rw [List.getElem?_append_right (by omega), hto] at hi
        by_cases c2 : i < off + k
        · rw [List.getElem?_append_left (by omega)] at hi
          obtain ⟨v, hv, hrep⟩ := hst.rep _ row j x hi hj
          have hlt2 := (Array.getElem?_eq_some_iff.1 hv).1
          have e : i * ε.size = off * ε.size + (i - off) * ε.size := by rw [← Nat.add_mul]; congr 1; omega
          refine ⟨v, ?_, hrep.mono hgo hA (fun _ _ => rfl) (hbs row (List.mem_of_getElem? hi) x (List.mem_of_getElem? hj))⟩
          rw [hget, if_pos (by simp; omega), show (ids n).2 + (i * ε.size + j) - ((ids n).2 + off * ε.size) = (i - off) * ε.size + j by omega]
          simpa using hv
        · rw [List.getElem?_append_right (by omega), hsl] at hi
          refine old ?_ (.inr (by omega))
          unfold toVs at hi ⊢
          rw [List.map_drop, List.getElem?_drop] at hi
          rw [← hi]; congr 1; omega
    · exact leaves_app (fun row hrow => (hh.blk n _ hn).2 row (List.mem_of_mem_take hrow)) (leaves_app hlv fun row hrow => (hh.blk n _ hn).2 row (List.mem_of_mem_drop hrow))
  exact ⟨_, _, _, .inl hrun, hchg.trans (Chg.skip hchg.heap (Nm.le_add _ _)), .c _, .c _⟩
end
end Go.Proofs.Ytmihhkcbbdpnaaa.Abs
