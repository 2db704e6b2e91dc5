/- The abstract machine, part 22: contracts of functions that are lent named blocks, and how they are called. -/
import Derived.Test.YtmihhkcbbdpnaaaC6
namespace Go.Proofs.Ytmihhkcbbdpnaaa.Abs
set_option linter.unusedVariables false
set_option linter.unusedSimpArgs false

theorem RepV.sub {A A' : Nat → Prop} {ids : Nat → Nat × Nat} {w : World} (hA : ∀ b, A' b → A b) {x : V} {v : Value} (h : RepV A ids w x v) : RepV A' ids w x v := by
  induction h with
  | un v => exact .un v
  | c v => exact .c v
  | lst sz rows clip v h hcl => exact .lst _ _ _ _ (h.mono (Goes.refl A w) fun b _ x => hA b x) hcl
  | sl n sz off len cap ad hl hc => exact .sl _ _ _ _ cap ad hl hc
  | sx n sz off len cap ad hl hc => exact .sx _ _ _ _ _ ad hl hc
  | ac0 n sz ad => exact .ac0 ..
  | ac1 n sz len v h0 h ih => exact .ac1 _ _ _ _ h0 ih
  | p n sz i j => exact .p ..
  | q row j b o cell hb' hn hc hd => exact .q row j b o cell hb' (fun x => hn (hA b x)) hc fun k d hk => (hd k d hk).mono (Goes.refl A w) fun b _ x => hA b x
  | agg xs arr hs h ih => exact .agg _ _ hs fun i x v h1 h2 => ih i x v h1 h2
  | tup xs arr hs h ih => exact .tup _ _ hs fun i x v h1 h2 => ih i x v h1 h2
  | fn f xs ys ar br hs hs' h h' ih ih' => exact .fn f xs ys ar br hs hs' (fun i x v h1 h2 => ih i x v h1 h2) (fun i x v h1 h2 => ih' i x v h1 h2)
  | ifc t x v h ih => exact .ifc _ _ _ ih
  | mp n => exact .mp ..
theorem renV_below {σ : Nat → Nat} {M M' : Nm} (hm : ∀ n, M n → M' (σ n)) {x : V} (h : x.Below M) : (renV σ x).Below M' := by
  induction h with
  | un => rw [renV]; exact .un
  | c v => rw [renV]; exact .c v
  | lst sz rows clip => rw [renV]; exact .lst ..
  | sl n sz off len h => rw [renV]; exact .sl _ _ _ _ (hm n h)
  | ac n sz len h => rw [renV]; exact .ac _ _ _ (hm n h)
  | sx n sz off len cap h => rw [renV]; exact .sx _ _ _ _ _ (hm n h)
  | p n sz i j h => rw [renV]; exact .p _ _ _ _ (hm n h)
  | q row j => rw [renV]; exact .q ..
  | agg xs h ih => rw [renV, renVs_map]; exact .agg _ fun x hx => by obtain ⟨y, hy, rfl⟩ := List.mem_map.1 hx; exact ih y hy
  | tup xs h ih => rw [renV, renVs_map]; exact .tup _ fun x hx => by obtain ⟨y, hy, rfl⟩ := List.mem_map.1 hx; exact ih y hy
  | fn f a b h h' ih ih' =>
    rw [renV, renVs_map, renVs_map]
    exact .fn _ _ _ (fun x hx => by obtain ⟨y, hy, rfl⟩ := List.mem_map.1 hx; exact ih y hy) (fun x hx => by obtain ⟨y, hy, rfl⟩ := List.mem_map.1 hx; exact ih' y hy)
  | ifc t x h ih => rw [renV]; exact .ifc _ _ ih
  | mp n h => rw [renV]; exact .mp _ (hm n h)
theorem renB_below {σ : Nat → Nat} {M M' : Nm} (hm : ∀ n, M n → M' (σ n)) {b : B} (h : b.Below M) : (renB σ b).Below M' := by
  cases b with
  | dat sz r => trivial
  | rows sz r =>
    intro row hr x hx
    obtain ⟨row', hr', rfl⟩ := List.mem_map.1 hr
    rw [renVs_map] at hx
    obtain ⟨y, hy, rfl⟩ := List.mem_map.1 hx
    exact renV_below hm (h row' hr' y hy)
  | map es =>
    intro e he
    obtain ⟨e', he', rfl⟩ := List.mem_map.1 he
    exact renV_below hm (h e' he')

section
variable {P : Program} {tab : Tab}

/-- f lent the blocks H (names below N) returns r and leaves the blocks H' (names below N') -/
def LSpec (P : Program) (f : FuncId) (args : List V) (H : List (Nat × B)) (N : Nat) (r : V) (H' : List (Nat × B)) (N' : Nat) : Prop :=
  (∀ x ∈ args, x.Below (Lt N)) ∧ (∀ p ∈ H, p.1 < N ∧ p.2.Below (Lt N)) ∧
  ∀ (F : Nat → Prop) (ids : Nat → Nat × Nat) (w : World) (vals : Array Value), RepH F ids w (hAt H) (Lt N) → vals.size = args.length →
    (∀ (i : Nat) (x : V) (v : Value), args[i]? = some x → vals[i]? = some v → RepV (Avoid F (hAt H) ids) ids w x v) →
    (callFunc f vals).run P w = .ok (.enter f vals) w ∧ Calls P f vals w fun e w' => ∃ v ids', e = .returned v ∧ Chg F ids w (hAt H) (Lt N) ids' w' (hAt H') (Lt N') ∧ RepV (Avoid F (hAt H') ids') ids' w' r v ∧ r.Below (Lt N')

/-- how a body that is lent blocks must end -/
noncomputable def retK (ρ : List (Nat × Nat)) (N N' : Nat) (r : V) (H' : List (Nat × B)) (v : V) (h : List (Nat × B)) : Prop :=
  okK (ρ.all fun p => Nat.ble N p.1) (okK (noTwice (H'.map fun p => ren1 ρ p.1)) (subV (ren1 ρ) (frOf (ren1 ρ) H') h N' r v (subH (ren1 ρ) (frOf (ren1 ρ) H') N' H' h True)))
inductive RetL (N N' : Nat) (r : V) (H' : List (Nat × B)) (v : V) (h : List (Nat × B)) : Prop
  | mk (ρ : List (Nat × Nat)) (hk : retK ρ N N' r H' v h) : RetL N N' r H' v h
theorem LSpec.of (ht : TabOk P tab) (hmix : P.follows .mixedOrders = true) {f : FuncId} {fn : Func} (hf : P.funcs[f]? = some fn) (hname : (fn.name == "runtime.NumGoroutine") = false)
    {args : List V} {H : List (Nat × B)} {N : Nat} {r : V} {H' : List (Nat × B)} {N' : Nat} (ha : ∀ x ∈ args, x.Below (Lt N)) (hH : ∀ p ∈ H, p.1 < N ∧ p.2.Below (Lt N)) (hNN : N ≤ N') (hN : N ≤ 64)
    (h : fnK P tab N fn args H 64 fun v h' b => RetL N N' r H' v h') : LSpec P f args H N r H' N' := by
  obtain ⟨c, hc, hlen, hw0⟩ := fnK_of ht hmix hN h
  refine ⟨ha, hH, fun F ids w vals hh hsz hv => ⟨?_, ?_⟩⟩
  · simp only [callFunc, Sem.run_bind, run_program, Result.andThen_ok, hf, hname, Bool.false_eq_true, if_false, hc, Option.isNone_some, Sem.run_pure]
  · refine calls_of_wp hf hc ?_
    have hget : ∀ i, args.length ≤ i → args.getD i .un = .un := fun i hi => by simp [List.getD_eq_getElem?_getD, hi]
    have hrep : Rep F ids w ⟨fun i => args.getD i .un, hAt H, 64, fn.ntmps⟩ { tmps := vals ++ Array.replicate (fn.ntmps - vals.size) undef, defers := [] } := by
      refine ⟨hh.nx (Lt_le hN), fun i => ?_, by simp; omega, fun i hi => hget i (Nat.le_trans hlen hi), fun i => ?_, rfl⟩
      · show RepV _ _ _ (args.getD i .un) _
        by_cases hi : i < args.length
        · have hx : args[i]? = some args[i] := by simp [hi]
          have hvi : vals[i]? = some (vals[i]'(by omega)) := by simp [hsz, hi]
          have := hv i args[i] _ hx hvi
          simp only [List.getD_eq_getElem?_getD, hx, Option.getD_some, Array.getD_eq_getD_getElem?, Array.getElem?_append_left (show i < vals.size by omega), hvi]
          exact this
        · rw [hget i (by omega)]; exact .un _
      · show V.Below _ (args.getD i .un)
        by_cases hi : i < args.length
        · have hx : args[i]? = some args[i] := by simp [hi]
          simp only [List.getD_eq_getElem?_getD, hx, Option.getD_some]
          exact (ha _ (List.getElem_mem hi)).mono (Lt_le hN)
        · rw [hget i (by omega)]; exact .un
    have hw := hw0 F ids w _ hrep
    refine wp_mono hw ?_
    rintro e a' w' ⟨x, s', ids', hx, ⟨hx', hq⟩, hr', hk⟩
    obtain ⟨y, v, ⟨h', eh, _, ρ, hret⟩, k2, k3, k4⟩ := results_sound (P := P) ht hr' fn (fun y => ∃ h', s'.h = hAt h' ∧ N ≤ s'.b ∧ RetL N N' r H' y h') hq
    obtain ⟨g1, hret⟩ := okK_of hret
    obtain ⟨g2, hret⟩ := okK_of hret
    obtain ⟨hret, g3, g4⟩ := subV_of hret
    obtain ⟨_, g5⟩ := subH_of hret
    have hren0 : Ren (ren1 ρ) (hAt h') (hAt H') (Lt N') := subH_ren (noTwice_nodup g2) g5
    have hren : Ren (ren1 ρ) s'.h (hAt H') (Lt N') := by rw [eh]; exact hren0
    have hend : ∃ v, (results fn a'.tmps).run P w' = .ok v w' ∧ ∃ v' ids2, Ending.returned v = .returned v' ∧ Chg F ids w (hAt H) (Lt N) ids2 w' (hAt H') (Lt N') ∧ RepV (Avoid F (hAt H') ids2) ids2 w' r v' ∧ r.Below (Lt N') := by
      refine ⟨v, k2, v, fun n => ids' (ren1 ρ n), rfl, ⟨hren.heap hr'.heap, hk.goes, fun b hb x => hk.live b hb ?_, fun n hn => by rw [ren1_id g1 hn]; exact hk.ids n hn, fun k hk => Nat.lt_of_lt_of_le hk hNN⟩, ?_, g3⟩
      · obtain ⟨n, c, hn, hcr, hb⟩ := x
        obtain ⟨b', q1, q2, _⟩ := hren.real hn hcr
        exact ⟨_, _, q1, q2, hb⟩
      · have hrh := hr'.heap
        rw [eh] at k3 hrh
        exact g4.rep hren0 hrh k3
    cases e with
    | normal => exact ⟨hr'.defers, hend⟩
    | ret => exact ⟨hr'.defers, hend⟩
    | exit k =>
      cases x with
      | exit j => exact hx'.elim
      | normal => exact False.elim hx
      | ret => exact False.elim hx
    | _ => cases x <;> cases hx

/-- the canonical name n in the caller's names: old ones by the list, new ones behind nm -/
def sgm : List (Option Nat) → Nat → Nat → Nat → Nat
  | [], nm, _, n => nm + n
  | some x :: _, _, _, 0 => x
  | none :: _, nm, i, 0 => nm + 32 + i
  | _ :: L, nm, i, n + 1 => sgm L nm (i + 1) n
theorem sgm_ge {nm : Nat} : ∀ {L : List (Option Nat)} {i n : Nat}, L.length ≤ n → sgm L nm i n = nm + (n - L.length)
  | [], i, n, _ => by simp [sgm]
  | some x :: L, i, 0, h => by simp at h
  | none :: L, i, 0, h => by simp at h
  | some x :: L, i, n + 1, h => by rw [sgm, sgm_ge (by simpa using h)]; simp
  | none :: L, i, n + 1, h => by rw [sgm, sgm_ge (by simpa using h)]; simp
theorem sgm_lt {nm : Nat} : ∀ {L : List (Option Nat)} {i n : Nat}, n < L.length → (∃ x, some x ∈ L ∧ sgm L nm i n = x) ∨ sgm L nm i n = nm + 32 + (i + n)
  | [], i, n, h => by simp at h
  | some x :: L, i, 0, h => .inl ⟨x, by simp, rfl⟩
  | none :: L, i, 0, h => .inr rfl
  | some x :: L, i, n + 1, h => by
    rcases sgm_lt (L := L) (nm := nm) (i := i + 1) (n := n) (by simpa using h) with ⟨y, h1, h2⟩ | h1
    · exact .inl ⟨y, by simp [h1], h2⟩
    · exact .inr (by rw [sgm, h1]; omega)
  | none :: L, i, n + 1, h => by
    rcases sgm_lt (L := L) (nm := nm) (i := i + 1) (n := n) (by simpa using h) with ⟨y, h1, h2⟩ | h1
    · exact .inl ⟨y, by simp [h1], h2⟩
    · exact .inr (by rw [sgm, h1]; omega)

/-- how arguments are passed: by their other names, or given up -/
noncomputable def passT (σ : Nat → Nat) (N : Nat) (Z : List Nat) (h : List (Nat × B)) (l : List V) : SubT := subT σ (fun n => Z.contains n) h N l
theorem passT_of {σ : Nat → Nat} {N : Nat} {Z : List Nat} {h : List (Nat × B)} {l xs : List V} {K : Prop} (hk : passT σ N Z h l xs K) : K ∧ l.length = xs.length ∧ ∀ h2 : Hp, (∀ n ∈ Z, h2 n = hAt h n) → ∀ (i : Nat) (a x : V), l[i]? = some a → xs[i]? = some x → Wk h2 (fun n => n ∉ Z) σ a x := by
  obtain ⟨h1, h2, h3⟩ := subs_of subV_of hk
  refine ⟨h1, h2, fun hp hh i a x ha hx => ?_⟩
  have := (h3 i a x ha hx).2 hp fun n hn => hh n (by simpa using hn)
  have e : (fun n => Z.contains n = false) = fun n => n ∉ Z := by funext n; simp
  rw [← e]; exact this

theorem appU_none : ∀ {Z : List Nat} {h : Hp} {m : Nat} {b : B}, appU h (Z.map fun z => (z, none)) m = some b → m ∉ Z ∧ h m = some b
  | [], h, m, b, e => ⟨by simp, e⟩
  | z :: Z, h, m, b, e => by
    obtain ⟨h1, h2⟩ := appU_none (Z := Z) (h := upd h z none) e
    unfold upd at h2
    split at h2
    · cases h2
    · next hne => exact ⟨by simp [hne, h1], h2⟩
theorem appU_append : ∀ {u v : List (Nat × Option B)} {h : Hp}, appU h (u ++ v) = appU (appU h u) v
  | [], v, h => rfl
  | p :: u, v, h => appU_append (u := u)
theorem appU_put {σ : Nat → Nat} : ∀ {H : List (Nat × B)} {h : Hp} {m : Nat} {b : B}, (H.map fun p => σ p.1).Nodup → appU h (H.map fun p => (σ p.1, some (renB σ p.2))) m = some b → (∃ p ∈ H, σ p.1 = m ∧ b = renB σ p.2) ∨ ((∀ p ∈ H, σ p.1 ≠ m) ∧ h m = some b)
  | [], h, m, b, _, e => .inr ⟨by simp, e⟩
  | z :: Z, h, m, b, hn, e => by
    rw [List.map_cons, List.nodup_cons] at hn
    rcases appU_put (H := Z) (h := upd h (σ z.1) (some (renB σ z.2))) hn.2 e with ⟨p, hp, e1, e2⟩ | ⟨h1, h2⟩
    · exact .inl ⟨p, by simp [hp], e1, e2⟩
    · unfold upd at h2
      split at h2
      · next he => cases h2; exact .inl ⟨z, by simp, he.symm, rfl⟩
      · next hne => exact .inr ⟨fun p hp => by rcases List.mem_cons.1 hp with rfl | hp; exact fun e => hne e.symm; exact h1 p hp, h2⟩
def effOf (σ : Nat → Nat) (Z : List Nat) (H H' : List (Nat × B)) : List (Nat × Option B) :=
  (Z ++ H.map fun p => σ p.1).map (fun z => (z, none)) ++ H'.map fun p => (σ p.1, some (renB σ p.2))
theorem hAt_of_mem : ∀ {l : List (Nat × B)}, (l.map Prod.fst).Nodup → ∀ p ∈ l, hAt l p.1 = some p.2
  | [], _, p, hp => by simp at hp
  | q :: l, hn, p, hp => by
    rw [List.map_cons, List.nodup_cons] at hn
    simp only [hAt]
    rcases List.mem_cons.1 hp with rfl | hp'
    · rw [show Nat.beq p.1 p.1 = true from Nat.beq_refl _]
    · split
      · next e => exact absurd (by rw [← Nat.eq_of_beq_eq_true e]; exact List.mem_map_of_mem hp') hn.1
      · exact hAt_of_mem hn.2 p hp'

theorem LSpec.run {f : FuncId} {args : List V} {H : List (Nat × B)} {r : V} {H' : List (Nat × B)} {N N' : Nat} (hs : LSpec P f args H N r H' N') {h : Hp} {M : Nm} {xs : List V} {nm : Nat} (L : List (Option Nat)) (Z : List Nat)
    (hfresh : ∀ k, nm ≤ k → k < nm + 64 → ¬ M k) (hL : L.length = N) (hLt : ∀ x, some x ∈ L → M x) (hN : N ≤ 32) (hN' : N' ≤ N + 32) (hlen : args.length = xs.length) (hx : ∀ (i : Nat) (a x : V), args[i]? = some a → xs[i]? = some x → Wk h (fun n => n ∉ Z) (sgm L nm 0) a x)
    (hH : ∀ p ∈ H, ((∃ b', h (sgm L nm 0 p.1) = some b' ∧ WkB h (fun n => n ∉ Z) (sgm L nm 0) p.2 b') ∨ p.2.real = false) ∧ sgm L nm 0 p.1 ∉ Z)
    (hinj : (H.map fun p => sgm L nm 0 p.1).Nodup) (hinj' : (H'.map fun p => sgm L nm 0 p.1).Nodup) :
    ACall P f xs h M nm fun v h' => v = renV (sgm L nm 0) r ∧ h' = appU h (effOf (sgm L nm 0) Z H H') := by
  subst hL
  obtain ⟨ha, hb, hs⟩ := hs
  intro F ids w vals hh hsz hv
  generalize hσ : sgm L nm 0 = σ at *
  have σlt : ∀ n, n < L.length → M (σ n) ∨ σ n = nm + 32 + n := by
    intro n hn
    subst hσ
    rcases sgm_lt (nm := nm) (i := 0) hn with ⟨x, h1, h2⟩ | h1
    · exact .inl (h2 ▸ hLt x h1)
    · exact .inr (by rw [h1]; omega)
  have σge : ∀ n, L.length ≤ n → σ n = nm + (n - L.length) := fun n hn => hσ ▸ sgm_ge hn
  -- the names that are lent
  let rest : Nat → Prop := fun m => (∃ x, h m = some x ∧ x.real = true) ∧ (∀ p ∈ H, σ p.1 ≠ m) ∧ m ∉ Z
  let F' : Nat → Prop := fun b => F b ∨ ∃ m, rest m ∧ (ids m).1 = b
  have hHn : ∀ n b, hAt H n = some b → b.real = true → ∃ b', h (σ n) = some b' ∧ b'.real = true ∧ WkB h (fun n => n ∉ Z) σ b b' ∧ σ n ∉ Z := fun n b hn hr => by
    obtain ⟨b', q1, q2⟩ := (hH _ (hAt_mem hn)).1.resolve_right (by simp [hr])
    exact ⟨b', q1, q2.1.trans hr, q2, (hH _ (hAt_mem hn)).2⟩
  have hav : ∀ b, Avoid F' (hAt H) (fun n => ids (σ n)) b → Avoid F h ids b := by
    rintro b ((hF | ⟨m, ⟨⟨x, hx, hxr⟩, _⟩, hm⟩) | ⟨n, x, hn, hr, hb⟩)
    · exact .inl hF
    · exact .inr ⟨m, x, hx, hxr, hm⟩
    · obtain ⟨b', q1, q2, _⟩ := hHn n x hn hr
      exact .inr ⟨σ n, b', q1, q2, hb⟩
  have hX0 : ∀ n x, h n = some x → x.real = true → ¬ (n ∉ Z) → ¬ Avoid F' (hAt H) (fun n => ids (σ n)) (ids n).1 := by
    intro n x hn hxr hz
    have hz : n ∈ Z := Classical.not_not.1 hz
    rintro ((hF | ⟨m, ⟨⟨x', hx', hxr'⟩, _, hz'⟩, hm⟩) | ⟨m, x', hm, hr', hb⟩)
    · exact hh.out n x hn hxr hF
    · exact hz' (hh.inj _ _ _ _ hx' hn hxr' hxr hm ▸ hz)
    · obtain ⟨b', q1, q2, _, q4⟩ := hHn m x' hm hr'
      have := hh.inj _ _ _ _ q1 hn q2 hxr hb
      exact q4 (this ▸ hz)
  have ghost : ∀ {A : Nat → Prop} {ids : Nat → Nat × Nat} {w : World} {p : Nat × Nat} {b : B}, b.real = false → RepB A ids w p b := by
    intro A ids w p b hr
    cases b with
    | dat sz rw => cases rw with
      | nil => exact ⟨fun h => absurd rfl h, by simp [leaves]⟩
      | cons _ _ => cases hr
    | _ => cases hr
  have hh0 : RepH F' (fun n => ids (σ n)) w (hAt H) (Lt L.length) := by
    refine ⟨fun n b hn => (hb _ (hAt_mem hn)).1, fun n b hn => ?_, fun n b hn => (hb _ (hAt_mem hn)).2, fun n m b c hn hm hbr hcr e => ?_, fun n b hn hbr hF => ?_, fun b hF => ?_⟩
    · cases hbr : b.real with
      | true =>
        obtain ⟨b', q1, _, q3, _⟩ := hHn n b hn hbr
        exact q3.2 F _ ids w M hh hav hX0 _ (hh.blk _ _ q1)
      | false => exact ghost hbr
    · obtain ⟨b1, q1, q2, _⟩ := hHn n b hn hbr
      obtain ⟨b2, q3, q4, _⟩ := hHn m c hm hcr
      have e2 := hh.inj _ _ _ _ q1 q3 q2 q4 e
      exact congrArg Prod.fst (nodup_inj (f := fun p : Nat × B => σ p.1) hinj _ (hAt_mem hn) _ (hAt_mem hm) e2)
    · rcases hF with hF | ⟨m, ⟨⟨x, hx, hxr⟩, h1, h2⟩, hm⟩
      · obtain ⟨b1, q1, q2, _⟩ := hHn n b hn hbr
        exact hh.out _ _ q1 q2 hF
      · obtain ⟨b1, q1, q2, _⟩ := hHn n b hn hbr
        have e2 := hh.inj _ _ _ _ hx q1 hxr q2 hm
        exact h1 _ (hAt_mem hn) e2.symm
    · rcases hF with hF | ⟨m, ⟨⟨x, hx, hxr⟩, h1, h2⟩, hm⟩
      · exact hh.fsz b hF
      · exact hh.liveLt ⟨m, x, hx, hxr, hm⟩
  have hvals : ∀ (i : Nat) (x : V) (v : Value), args[i]? = some x → vals[i]? = some v → RepV (Avoid F' (hAt H) fun n => ids (σ n)) (fun n => ids (σ n)) w x v := by
    intro i a v hai hvi
    have hi : i < xs.length := by rw [← hlen]; exact (List.getElem?_eq_some_iff.1 hai).1
    have hxi : xs[i]? = some xs[i] := by simp [hi]
    exact hx i a xs[i] hai hxi F _ ids w M hh hav hX0 v (hv i xs[i] v hxi hvi)
  obtain ⟨c1, c2⟩ := hs F' (fun n => ids (σ n)) w vals hh0 (by rw [hsz, hlen]) hvals
  refine .inl ⟨c1, c2.mono ?_⟩
  rintro e w' ⟨v, ids1, rfl, hc, hrv, hrb⟩
  let ids2 : Nat → Nat × Nat := fun m => if nm ≤ m ∧ m < nm + 32 then ids1 (L.length + (m - nm)) else if nm + 32 ≤ m ∧ m < nm + 64 then ids1 (m - nm - 32) else ids m
  have hold : ∀ m, M m → ids2 m = ids m := by
    intro m hm
    have : ¬ (nm ≤ m ∧ m < nm + 64) := fun ⟨a, b⟩ => hfresh m a b hm
    show (if _ then _ else if _ then _ else _) = _
    rw [if_neg (by omega), if_neg (by omega)]
  have hi2 : ∀ k, Lt N' k → ids2 (σ k) = ids1 k := by
    intro k hkN
    have hkN : k < N' := hkN
    by_cases hk : k < L.length
    · rcases σlt k hk with hm | e
      · rw [hold _ hm, hc.ids k hk]
      · show (if _ then _ else if _ then _ else _) = _
        rw [if_neg (by omega), if_pos (by omega), e]
        congr 1; omega
    · have := σge k (Nat.le_of_not_lt hk)
      show (if _ then _ else if _ then _ else _) = _
      rw [if_pos (by omega), this]
      congr 1; omega
  have hσM : ∀ n, Lt N' n → M (σ n) ∨ (nm ≤ σ n ∧ σ n < nm + 64) := fun n hn => by
    have hn : n < N' := hn
    by_cases hk : n < L.length
    · rcases σlt n hk with hm | e
      · exact .inl hm
      · exact .inr (by omega)
    · have := σge n (Nat.le_of_not_lt hk)
      exact .inr (by omega)
  generalize hh2 : appU h (effOf σ Z H H') = h2
  have h2cases : ∀ m b, h2 m = some b → (∃ n c, hAt H' n = some c ∧ σ n = m ∧ b = renB σ c) ∨ ((∀ p ∈ H, σ p.1 ≠ m) ∧ m ∉ Z ∧ h m = some b) := by
    intro m b hm
    rw [← hh2, effOf, appU_append] at hm
    rcases appU_put hinj' hm with ⟨p, hp, e1, e2⟩ | ⟨h1, h3⟩
    · refine .inl ⟨p.1, p.2, hAt_of_mem ?_ p hp, e1, e2⟩
      have := hinj'
      rw [show (fun p : Nat × B => σ p.1) = σ ∘ Prod.fst from rfl, ← List.map_map] at this
      exact List.Pairwise.of_map σ (fun a b hab e => hab (e ▸ rfl)) this
    · obtain ⟨h4, h5⟩ := appU_none h3
      simp only [List.mem_append, List.mem_map, not_or, not_exists, not_and] at h4
      exact .inr ⟨fun p hp => h4.2 p hp, h4.1, h5⟩
  have hN'lt : ∀ n c, hAt H' n = some c → Lt N' n := fun n c hn => hc.heap.lt n c hn
  have hav2 : ∀ b, Avoid F h2 ids2 b → Avoid F' (hAt H') ids1 b := by
    rintro b (hF | ⟨m, x, hm, hxr, hb⟩)
    · exact .inl (.inl hF)
    · rcases h2cases m x hm with ⟨n, c, hn, rfl, rfl⟩ | ⟨h1, h2, hhm⟩
      · exact .inr ⟨n, c, hn, by rw [renB_real] at hxr; exact hxr, by rw [← hi2 n (hN'lt n c hn)]; exact hb⟩
      · exact .inl (.inr ⟨m, ⟨⟨x, hhm, hxr⟩, h1, h2⟩, by rw [← hold m (hh.lt m x hhm)]; exact hb⟩)
  have hav3 : ∀ b, b < w.heap.size → Avoid F h2 ids2 b → Avoid F h ids b := by
    rintro b hbs (hF | ⟨m, x, hm, hxr, hb⟩)
    · exact .inl hF
    · rcases h2cases m x hm with ⟨n, c, hn, rfl, rfl⟩ | ⟨h1, h2, hhm⟩
      · obtain ⟨n', x', hn', hxr', hb'⟩ := hc.live b hbs ⟨n, c, hn, by rw [renB_real] at hxr; exact hxr, by rw [← hi2 n (hN'lt n c hn)]; exact hb⟩
        obtain ⟨b1, q1, q2, _⟩ := hHn n' x' hn' hxr'
        exact .inr ⟨σ n', b1, q1, q2, hb'⟩
      · exact .inr ⟨m, x, hhm, hxr, by rw [← hold m (hh.lt m x hhm)]; exact hb⟩
  have hgl : Goes (Live h ids) w w' := hc.goes.weaken fun b _ ⟨n, x, hn, hr, hb⟩ => by
    obtain ⟨b1, q1, q2, _⟩ := hHn n x hn hr
    exact ⟨σ n, b1, q1, q2, hb⟩
  have hga : Goes (Avoid F h ids) w w' := hgl.weaken fun b _ x => .inr x
  have hrest : ∀ m n x c, (∀ p ∈ H, σ p.1 ≠ m) → m ∉ Z → h m = some x → x.real = true → hAt H' n = some c → c.real = true → (ids m).1 ≠ (ids1 n).1 := fun m n x c h1 h2 hx hxr hn hcr e => hc.heap.out n c hn hcr (.inr ⟨m, ⟨⟨x, hx, hxr⟩, h1, h2⟩, e⟩)
  refine ⟨v, renV σ r, h2, ids2, rfl, ⟨rfl, hh2.symm ▸ rfl⟩, ⟨⟨fun m b hm => ?_, fun m b hm => ?_, fun m b hm => ?_, fun m1 m2 b1 b2 hm1 hm2 hb1 hb2 e => ?_, fun m b hm hbr hF => ?_, fun b hF => Nat.lt_of_lt_of_le (hh.fsz b hF) hgl.size⟩, hgl, fun b hbs x => ?_, hold, fun k hk => .inl hk⟩, ?_, renV_below hσM hrb⟩
  · rcases h2cases m b hm with ⟨n, c, hn, rfl, rfl⟩ | ⟨h1, h2, hhm⟩
    · exact hσM n (hN'lt n c hn)
    · exact .inl (hh.lt m b hhm)
  · rcases h2cases m b hm with ⟨n, c, hn, rfl, rfl⟩ | ⟨h1, h2, hhm⟩
    · have := hc.heap.blk n c hn
      rw [hi2 n (hN'lt n c hn)]
      exact rep_renB (fun b _ x => hav2 b x) hi2 this (hc.heap.below n c hn)
    · have hb1 := hh.blk m b hhm
      rw [hold m (hh.lt m b hhm)]
      refine hb1.mono hga hav3 hold (hh.below m b hhm) fun hbr => hc.goes.same _ (hb1.lt hbr) ?_
      rintro ⟨n, x, hn, hxr, hb⟩
      obtain ⟨b1, q1, q2, _⟩ := hHn n x hn hxr
      have := hh.inj _ _ _ _ q1 hhm q2 hbr hb
      exact h1 _ (hAt_mem hn) this
  · rcases h2cases m b hm with ⟨n, c, hn, rfl, rfl⟩ | ⟨h1, h2, hhm⟩
    · exact renB_below hσM (hc.heap.below n c hn)
    · exact (hh.below m b hhm).mono fun k hk => .inl hk
  · rcases h2cases m1 b1 hm1 with ⟨n, c, hn, rfl, rfl⟩ | ⟨h1, h2, hhm⟩
    · rw [renB_real] at hb1
      rcases h2cases m2 b2 hm2 with ⟨n', c', hn', rfl, rfl⟩ | ⟨h1', h2', hhm'⟩
      · rw [renB_real] at hb2
        rw [hi2 n (hN'lt n c hn), hi2 n' (hN'lt n' c' hn')] at e
        rw [hc.heap.inj n n' c c' hn hn' hb1 hb2 e]
      · rw [hi2 n (hN'lt n c hn), hold m2 (hh.lt m2 b2 hhm')] at e
        exact absurd e.symm (hrest m2 n b2 c h1' h2' hhm' hb2 hn hb1)
    · rcases h2cases m2 b2 hm2 with ⟨n', c', hn', rfl, rfl⟩ | ⟨h1', h2', hhm'⟩
      · rw [renB_real] at hb2
        rw [hi2 n' (hN'lt n' c' hn'), hold m1 (hh.lt m1 b1 hhm)] at e
        exact absurd e (hrest m1 n' b1 c' h1 h2 hhm hb1 hn' hb2)
      · rw [hold m1 (hh.lt m1 b1 hhm), hold m2 (hh.lt m2 b2 hhm')] at e
        exact hh.inj m1 m2 b1 b2 hhm hhm' hb1 hb2 e
  · rcases h2cases m b hm with ⟨n, c, hn, rfl, rfl⟩ | ⟨h1, h2, hhm⟩
    · rw [hi2 n (hN'lt n c hn)] at hF
      exact hc.heap.out n c hn (by rw [renB_real] at hbr; exact hbr) (.inl hF)
    · rw [hold m (hh.lt m b hhm)] at hF
      exact hh.out m b hhm hbr hF
  · rcases hav3 b hbs (.inr x) with hF | hl
    · obtain ⟨m, y, hm, hyr, hb⟩ := x
      rcases h2cases m y hm with ⟨n, c, hn, rfl, rfl⟩ | ⟨h1, h2, hhm⟩
      · rw [hi2 n (hN'lt n c hn)] at hb
        exact absurd (Or.inl (hb ▸ hF)) (hc.heap.out n c hn (by rw [renB_real] at hyr; exact hyr))
      · rw [hold m (hh.lt m y hhm)] at hb
        exact absurd (hb ▸ hF) (hh.out m y hhm hyr)
    · exact hl
  · exact rep_ren (fun b _ x => hav2 b x) hi2 hrv hrb
end
end Go.Proofs.Ytmihhkcbbdpnaaa.Abs
