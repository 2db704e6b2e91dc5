/- The abstract machine, part 18: operations that do not hang on each other change places. -/
import Derived.Test.YtmihhkcbbdpnaaaB5
namespace Go.Proofs.Ytmihhkcbbdpnaaa.Abs
set_option linter.unusedVariables false
set_option linter.unusedSimpArgs false
section
variable {P : Program} {tab : Tab}

def slotOf : Operand → Option Nat
  | .tmp i => some i
  | _ => none
def opSlots (op : Op) : List Nat := op.operands.toList.filterMap slotOf

theorem evS_congr {t t2 : Nat → V} {x : Operand} (h : ∀ i, slotOf x = some i → t2 i = t i) : evS t2 x = evS t x := by
  cases x with
  | tmp i => exact h i rfl
  | _ => rfl
theorem evS_ops {t t2 : Nat → V} {op : Op} (h : ∀ i ∈ opSlots op, t2 i = t i) : ∀ x ∈ op.operands.toList, evS t2 x = evS t x := by
  intro x hx
  exact evS_congr fun i hi => h i (List.mem_filterMap.2 ⟨x, hx, hi⟩)

theorem map_ev {e e2 : Operand → V} {l : List Operand} (h : ∀ x ∈ l, e2 x = e x) : l.map e2 = l.map e := List.map_congr_left h
theorem map_ev2 {e e2 : Operand → V} {l : List (Nat × Operand)} (h : ∀ x ∈ l.map (·.2), e2 x = e x) : (l.map fun p => (p.1, e2 p.2)) = l.map fun p => (p.1, e p.2) :=
  List.map_congr_left fun p hp => by rw [h p.2 (List.mem_map_of_mem hp)]

theorem sop_ev {nm : Nat} {e e2 : Operand → V} {h : Hp} {op : Op} (he : ∀ x ∈ op.operands.toList, e2 x = e x) : sop tab nm e2 h op = sop tab nm e h op ∧ dynOf nm e2 op = dynOf nm e op := by
  cases op with
  | move x => have := he x (by simp [Op.operands]); exact ⟨by rw [sop_move, sop_move, this], rfl⟩
  | assign x => have := he x (by simp [Op.operands]); exact ⟨by rw [sop_assign, sop_assign, this], rfl⟩
  | alloc t => exact ⟨rfl, rfl⟩
  | box t x => have := he x (by simp [Op.operands]); exact ⟨by rw [sop_box, sop_box, this], rfl⟩
  | build t ps => exact ⟨by rw [sop_build, sop_build, map_ev2 (by simpa [Op.operands] using he)], rfl⟩
  | buildSlice t n ps => exact ⟨by rw [sop_buildSlice, sop_buildSlice, map_ev2 (by simpa [Op.operands] using he)], rfl⟩
  | load t a => have := he a (by simp [Op.operands]); exact ⟨by rw [sop_load, sop_load, this], by simp only [dynOf, this]⟩
  | store t a x =>
    have h1 := he a (by simp [Op.operands])
    have h2 := he x (by simp [Op.operands])
    exact ⟨by rw [sop_store, sop_store, h1, h2], by simp only [dynOf, h1]⟩
  | nilCheck x => have := he x (by simp [Op.operands]); exact ⟨by rw [sop_nilCheck, sop_nilCheck, this], rfl⟩
  | binOp op t x y t' =>
    have h1 := he x (by simp [Op.operands])
    have h2 := he y (by simp [Op.operands])
    exact ⟨by rw [sop_binOp, sop_binOp, h1, h2], rfl⟩
  | unOp op t x => have := he x (by simp [Op.operands]); exact ⟨by rw [sop_unOp, sop_unOp, this], rfl⟩
  | convert s d x => have := he x (by simp [Op.operands]); exact ⟨by rw [sop_convert, sop_convert, this], rfl⟩
  | makeInterface t x => have := he x (by simp [Op.operands]); exact ⟨by rw [sop_makeInterface, sop_makeInterface, this], rfl⟩
  | makeFunc f a c => exact ⟨by rw [sop_makeFunc, sop_makeFunc, map_ev (fun x hx => he x (by simp only [Op.operands, Array.toList_append, List.mem_append]; exact .inl hx)), map_ev (fun x hx => he x (by simp only [Op.operands, Array.toList_append, List.mem_append]; exact .inr hx))], rfl⟩
  | slice t x l hi m =>
    have h1 := he x (by simp [Op.operands])
    have h2 : l.map e2 = l.map e := by cases l with | none => rfl | some y => simp [he y (by simp [Op.operands])]
    have h3 : hi.map e2 = hi.map e := by cases hi with | none => rfl | some y => simp [he y (by simp [Op.operands])]
    have h4 : m.map e2 = m.map e := by cases m with | none => rfl | some y => simp [he y (by simp [Op.operands])]
    exact ⟨by rw [sop_slice, sop_slice, h1, h2, h3, h4], rfl⟩
  | fieldAddr s x f => have := he x (by simp [Op.operands]); exact ⟨by rw [sop_fieldAddr, sop_fieldAddr, this], rfl⟩
  | field s x f => have := he x (by simp [Op.operands]); exact ⟨by rw [sop_field, sop_field, this], rfl⟩
  | indexAddr t x i =>
    have h1 := he x (by simp [Op.operands])
    have h2 := he i (by simp [Op.operands])
    exact ⟨by rw [sop_indexAddr, sop_indexAddr, h1, h2], rfl⟩
  | index t x i =>
    have h1 := he x (by simp [Op.operands])
    have h2 := he i (by simp [Op.operands])
    exact ⟨by rw [sop_index, sop_index, h1, h2], rfl⟩
  | extract x i => have := he x (by simp [Op.operands]); exact ⟨by rw [sop_extract, sop_extract, this], rfl⟩
  | call c =>
    obtain ⟨callee, args, tys⟩ := c
    have ha : ∀ x ∈ args.toList, e2 x = e x := fun x hx => he x (by simp only [Op.operands, Call.operands, Array.toList_append, List.mem_append]; exact .inr hx)
    rw [sop_call, sop_call]
    cases callee with
    | builtin bi =>
      generalize hl : args.toList = l at ha
      refine ⟨?_, ?_⟩
      · unfold callV
        dsimp only
        rw [hl]
        generalize tys.toList = ts
        cases bi <;> (try rfl)
        all_goals
          match l, ha with
          | [], _ => rfl
          | [x], ha =>
            have h1 := ha x (by simp)
            rcases ts with _ | ⟨t, _ | ⟨t', _ | ⟨t'', ts⟩⟩⟩ <;> simp only [h1]
          | [x, y], ha =>
            have h1 := ha x (by simp)
            have h2 := ha y (by simp)
            rcases ts with _ | ⟨t, _ | ⟨t', _ | ⟨t'', ts⟩⟩⟩ <;> simp only [h1, h2]
          | x :: y :: z :: l, _ => rfl
      · cases bi <;> (try rfl)
        all_goals
          simp only [dynOf, hl]
          match l, ha with
          | [], _ => rfl
          | [x], ha => simp only [ha x (by simp)]
          | [x, y], ha => simp only [ha x (by simp), ha y (by simp)]
          | x :: y :: z :: l, _ => rfl
    | value f => exact ⟨rfl, rfl⟩
    | invoke r m => exact ⟨rfl, rfl⟩
  | _ => exact ⟨rfl, rfl⟩

theorem DOp_ev {nm : Nat} {e e2 : Operand → V} {h : Hp} {op : Op} {d : Dyn} {v : V} {u : List (Nat × Option B)} (he : ∀ x ∈ op.operands.toList, e2 x = e x) (hd : DOp P tab nm op e d h v u) : DOp P tab nm op e2 d h v u := by
  rcases hd with hd | ⟨hx, hl⟩
  case inr => exact .inr ⟨hx, hl.names, hl.news, fun h2 hh M hf hb => (hl.run h2 hh M hf (fun x hx => by rw [← he x hx]; exact hb x hx)).ev he⟩
  refine .inl ?_
  unfold DOp0 at hd ⊢
  split at hd
  · next c x y =>
    obtain ⟨⟨z, h1, h2⟩, h3⟩ := hd
    refine ⟨⟨z, by rw [he c (by simp [Op.operands])]; exact h1, ?_⟩, h3⟩
    rw [he x (by simp [Op.operands]), he y (by simp [Op.operands])]; exact h2
  · next f args tys =>
    obtain ⟨g, first, cap, h1, hx, h2⟩ := hd
    refine ⟨g, first, cap, by rw [he f (by simp [Op.operands, Call.operands])]; exact h1, hx, ?_⟩
    rw [map_ev (e := e) fun x hx => he x (by simp only [Op.operands, Call.operands, Array.toList_append, List.mem_append]; exact .inr hx)]; exact h2
  · obtain ⟨h1, h2, h3, h4⟩ := hd
    exact ⟨by rw [h1, (sop_ev (tab := tab) (nm := nm) (h := fun _ => none) he).2], h2, h3, fun h2 hh => by rw [(sop_ev he).1]; exact h4 h2 hh⟩

/-- a heap that agrees on the names that are read gives the same -/
theorem DOp_loc {nm : Nat} {e : Operand → V} {h : Hp} {op : Op} {d : Dyn} {v : V} {u : List (Nat × Option B)} (hd : DOp P tab nm op e d h v u) :
    d.x = false ∧ (∀ n ∈ namesU u, n ∈ d.hw ∨ n ∈ d.nw) ∧ ∀ h2 : Hp, (∀ n, n ∈ d.hr ∨ n ∈ d.hw → h2 n = h n) → DOp P tab nm op e d h2 v u := by
  rcases hd with hd | ⟨hx, hl⟩
  case inr => exact ⟨hx, hl.names, fun h3 he => .inr ⟨hx, hl.names, hl.news, fun h4 he4 => hl.run h4 fun n hn => (he4 n hn).trans (he n hn)⟩⟩
  unfold DOp0 at hd
  split at hd
  · next c x y =>
    obtain ⟨h1, rfl, rfl⟩ := hd
    exact ⟨rfl, by simp [namesU], fun h3 _ => .inl ⟨h1, rfl, rfl⟩⟩
  · next f args tys =>
    obtain ⟨g, first, cap, h1, hx, h2⟩ := hd
    exact ⟨hx, h2.names, fun h3 he => .inl ⟨g, first, cap, h1, hx, h2.names, h2.news, fun h4 he4 => h2.run h4 fun n hn => (he4 n hn).trans (he n hn)⟩⟩
  · next hne1 hne2 =>
    obtain ⟨h1, h2, h3, h4⟩ := hd
    refine ⟨h2, h3, fun h5 he => .inl ?_⟩
    unfold DOp0
    split
    · next c x y => exact absurd rfl (hne1 c x y)
    · next f args tys => exact absurd rfl (hne2 f args tys)
    · exact ⟨h1, h2, h3, fun h6 he6 => h4 h6 fun n hn => (he6 n hn).trans (he n hn)⟩

/-! ### one step of a region -/
def gslot (ops : Array Oper) (o : Oper) : List Nat :=
  match o.guard with
  | some (j, _) => ((ops[j]?).bind (·.dst)).toList
  | none => []
/-- what a slot tells a guard: a truth value, or that nothing was done -/
def boolOf : V → Option (Option Bool)
  | .c (.bool x) => some (some x)
  | .c (.tuple _) => some none
  | _ => none
def guardV (ops : Array Oper) (o : Oper) (t : Nat → V) : Option Bool :=
  match o.guard with
  | none => some true
  | some (j, want) => ((ops[j]?).bind (·.dst)).bind fun d => (boolOf (t d)).map (· == some want)
def putT (dst : Option Nat) (v : V) (t : Nat → V) : Nat → V :=
  match dst with
  | none => t
  | some d => upd t d v

def DStep (P : Program) (tab : Tab) (ops : Array Oper) (n b i : Nat) (d : Dyn) (t : Nat → V) (h : Hp) (t' : Nat → V) (h' : Hp) : Prop :=
  ∃ o, ops[i]? = some o ∧ (∀ d', o.dst = some d' → d' < n) ∧
    ((guardV ops o t = some true ∧ ∃ v u, DOp P tab (b + 64 * i) o.op (evS t) d h v u ∧ h' = appU h u ∧ t' = putT o.dst v t) ∨
     (guardV ops o t = some false ∧ h' = h ∧ t' = putT o.dst V.no t))

def dis (a b : List Nat) : Bool := a.all fun x => !b.contains x
theorem dis_iff {a b : List Nat} (h : dis a b = true) {x : Nat} (hx : x ∈ a) (hy : x ∈ b) : False := by
  have := List.all_eq_true.1 h x hx
  simp at this; exact this hy

def indep (ops : Array Oper) (i : Nat) (di : Dyn) (j : Nat) (dj : Dyn) : Bool :=
  match ops[i]?, ops[j]? with
  | some o, some p =>
    let ri := opSlots o.op ++ gslot ops o
    let rj := opSlots p.op ++ gslot ops p
    let ui := di.hw ++ di.nw
    let uj := dj.hw ++ dj.nw
    dis o.dst.toList rj && dis p.dst.toList ri && dis o.dst.toList p.dst.toList && dis ui (dj.hr ++ dj.hw ++ uj) && dis uj (di.hr ++ di.hw)
  | _, _ => false

theorem putT_other {dst : Option Nat} {v : V} {t : Nat → V} {i : Nat} (h : ¬ i ∈ dst.toList) : putT dst v t i = t i := by
  cases dst with
  | none => rfl
  | some d => exact upd_ne _ _ _ _ (by simpa using h)
theorem putT_comm {d e : Option Nat} {v u : V} {t : Nat → V} (h : dis d.toList e.toList = true) : putT d v (putT e u t) = putT e u (putT d v t) := by
  cases d with
  | none => rfl
  | some d => cases e with
    | none => rfl
    | some e => exact upd_comm _ (fun x => dis_iff h (x := d) (by simp) (by simp [x])) _ _
theorem guardV_congr {ops : Array Oper} {o : Oper} {t t2 : Nat → V} (h : ∀ i ∈ gslot ops o, t2 i = t i) : guardV ops o t2 = guardV ops o t := by
  unfold guardV
  unfold gslot at h
  split
  · rfl
  · next j want hg =>
    rw [hg] at h
    dsimp only at h
    cases hd : (ops[j]?).bind (·.dst) with
    | none => rfl
    | some d => rw [hd] at h; simp [h d (by simp)]

theorem DStep.swap {ops : Array Oper} {n b i j : Nat} {di dj : Dyn} {t t1 t2 : Nat → V} {h h1 h2 : Hp} (hin : indep ops i di j dj = true) (s1 : DStep P tab ops n b i di t h t1 h1) (s2 : DStep P tab ops n b j dj t1 h1 t2 h2) :
    ∃ t1' h1', DStep P tab ops n b j dj t h t1' h1' ∧ DStep P tab ops n b i di t1' h1' t2 h2 := by
  obtain ⟨o, ho, hbo, s1⟩ := s1
  obtain ⟨p, hp, hbp, s2⟩ := s2
  unfold indep at hin
  rw [ho, hp] at hin
  simp only [Bool.and_eq_true] at hin
  obtain ⟨⟨⟨⟨c1, c2⟩, c3⟩, c4⟩, c5⟩ := hin
  -- slots
  have sj : ∀ v i', i' ∈ opSlots p.op ++ gslot ops p → putT o.dst v t i' = t i' := fun v i' hi => putT_other fun hx => dis_iff c1 hx hi
  have si : ∀ v (s : Nat → V) i', i' ∈ opSlots o.op ++ gslot ops o → putT p.dst v s i' = s i' := fun v s i' hi => putT_other fun hx => dis_iff c2 hx hi
  have ej : ∀ v, ∀ x ∈ p.op.operands.toList, evS t x = evS (putT o.dst v t) x := fun v => evS_ops fun i' hi => (sj v i' (by simp [hi])).symm
  have ei : ∀ v, ∀ x ∈ o.op.operands.toList, evS (putT p.dst v t) x = evS t x := fun v => evS_ops fun i' hi => si v t i' (by simp [hi])
  have gj : ∀ v, guardV ops p t = guardV ops p (putT o.dst v t) := fun v => guardV_congr fun i' hi => (sj v i' (by simp [hi])).symm
  have gi : ∀ v, guardV ops o (putT p.dst v t) = guardV ops o t := fun v => guardV_congr fun i' hi => si v t i' (by simp [hi])
  rcases s1 with ⟨g1, v1, u1, d1, rfl, rfl⟩ | ⟨g1, rfl, rfl⟩
  · rcases s2 with ⟨g2, v2, u2, d2, rfl, rfl⟩ | ⟨g2, rfl, rfl⟩
    · obtain ⟨x1, n1, l1⟩ := DOp_loc d1
      have d2' := DOp_ev (ej v1) d2
      obtain ⟨x2, n2, l2⟩ := DOp_loc d2'
      have nu1 : ∀ m, m ∈ namesU u1 → m ∈ di.hw ++ di.nw := fun m hm => List.mem_append.2 (n1 m hm)
      have nu2 : ∀ m, m ∈ namesU u2 → m ∈ dj.hw ++ dj.nw := fun m hm => List.mem_append.2 (n2 m hm)
      have hcomm : ∀ m, m ∈ namesU u1 → m ∈ namesU u2 → False := fun m h1 h2 => dis_iff c4 (nu1 m h1) (by simp only [List.mem_append]; exact .inr (List.mem_append.1 (nu2 m h2)))
      have a2 := l2 h (fun m hm => (appU_other (fun hk => dis_iff c4 (nu1 m hk) (by simp only [List.mem_append]; rcases hm with hm | hm; exact .inl (.inl hm); exact .inl (.inr hm)))).symm)
      have a1 := l1 (appU h u2) (fun m hm => appU_other fun hk => dis_iff c5 (nu2 m hk) (by simp only [List.mem_append]; exact hm))
      refine ⟨putT p.dst v2 t, appU h u2, ⟨p, hp, hbp, .inl ⟨by rw [gj v1]; exact g2, v2, u2, a2, rfl, rfl⟩⟩, ⟨o, ho, hbo, .inl ⟨by rw [gi v2]; exact g1, v1, u1, DOp_ev (ei v2) a1, appU_comm hcomm, (putT_comm c3).symm⟩⟩⟩
    · exact ⟨putT p.dst V.no t, h, ⟨p, hp, hbp, .inr ⟨by rw [gj v1]; exact g2, rfl, rfl⟩⟩, ⟨o, ho, hbo, .inl ⟨by rw [gi V.no]; exact g1, v1, u1, DOp_ev (ei V.no) d1, rfl, (putT_comm c3).symm⟩⟩⟩
  · rcases s2 with ⟨g2, v2, u2, d2, rfl, rfl⟩ | ⟨g2, rfl, rfl⟩
    · exact ⟨putT p.dst v2 t, _, ⟨p, hp, hbp, .inl ⟨by rw [gj V.no]; exact g2, v2, u2, DOp_ev (ej V.no) d2, rfl, rfl⟩⟩, ⟨o, ho, hbo, .inr ⟨by rw [gi v2]; exact g1, rfl, (putT_comm c3).symm⟩⟩⟩
    · exact ⟨putT p.dst V.no t, _, ⟨p, hp, hbp, .inr ⟨by rw [gj V.no]; exact g2, rfl, rfl⟩⟩, ⟨o, ho, hbo, .inr ⟨by rw [gi V.no]; exact g1, rfl, (putT_comm c3).symm⟩⟩⟩
end
end Go.Proofs.Ytmihhkcbbdpnaaa.Abs
