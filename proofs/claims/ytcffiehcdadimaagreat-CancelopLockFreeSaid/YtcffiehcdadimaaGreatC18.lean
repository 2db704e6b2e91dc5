/- The abstract machine, part 33: blocks that are hidden while a round runs; loops over families of blocks. -/
import Derived.Test.YtcffiehcdadimaaGreatC17
namespace Go.Proofs.YtcffiehcdadimaaGreat.Abs
set_option linter.unusedVariables false
set_option linter.unusedSimpArgs false
/-- two heaps, the first before the second -/
def joinH (h g : Hp) : Hp := fun n => match h n with
  | some b => some b
  | none => g n
theorem joinH_l {h g : Hp} {n : Nat} {b : B} (e : h n = some b) : joinH h g n = some b := by unfold joinH; rw [e]
theorem joinH_r {h g : Hp} {n : Nat} (e : h n = none) : joinH h g n = g n := by unfold joinH; rw [e]
theorem joinH_or {h g : Hp} {n : Nat} {b : B} (e : joinH h g n = some b) : h n = some b ∨ (h n = none ∧ g n = some b) := by
  unfold joinH at e
  cases hn : h n with
  | some c => rw [hn] at e; exact .inl e
  | none => rw [hn] at e; exact .inr ⟨rfl, e⟩
theorem hAt_app : ∀ (l m : List (Nat × B)), hAt (l ++ m) = joinH (hAt l) (hAt m)
  | [], m => by funext n; exact (joinH_r rfl).symm
  | p :: l, m => by
    funext n
    show hAt (p :: (l ++ m)) n = _
    simp only [hAt]
    split
    · next e => exact (joinH_l (by simp only [hAt, e])).symm
    · next e =>
      rw [hAt_app l m]
      unfold joinH
      simp only [hAt, e]
/-- no name in both -/
def Apart (h g : Hp) : Prop := ∀ k b c, h k = some b → g k = some c → False
theorem Apart.get {h g : Hp} (hd : Apart h g) {k : Nat} {c : B} (e : g k = some c) : joinH h g k = some c := by
  cases hk : h k with
  | none => rw [joinH_r hk, e]
  | some b => exact (hd k b c hk e).elim
theorem live_join {h g : Hp} (hd : Apart h g) {ids : Nat → Nat × Nat} {b : Nat} : Live (joinH h g) ids b ↔ Live h ids b ∨ Live g ids b := by
  constructor
  · rintro ⟨n, x, hn, hx, e⟩
    rcases joinH_or hn with h1 | ⟨_, h1⟩
    · exact .inl ⟨n, x, h1, hx, e⟩
    · exact .inr ⟨n, x, h1, hx, e⟩
  · rintro (⟨n, x, hn, hx, e⟩ | ⟨n, x, hn, hx, e⟩)
    · exact ⟨n, x, joinH_l hn, hx, e⟩
    · exact ⟨n, x, hd.get hn, hx, e⟩
/-- what is hidden is the caller's -/
theorem rep_hide {F : Nat → Prop} {ids : Nat → Nat × Nat} {w : World} {M : Nm} {t : Nat → V} {h g : Hp} {n : Nat} {a : Act} (hr : RepT F ids w M t (joinH h g) n a) (hd : Apart h g) : RepT (fun b => F b ∨ Live g ids b) ids w M t h n a := by
  have hh := hr.heap
  have hav : ∀ b, Avoid (fun b => F b ∨ Live g ids b) h ids b → Avoid F (joinH h g) ids b := by
    rintro b ((x | x) | x)
    · exact .inl x
    · exact .inr ((live_join hd).2 (.inr x))
    · exact .inr ((live_join hd).2 (.inl x))
  refine ⟨⟨fun k b hk => hh.lt k b (joinH_l hk), fun k b hk => ?_, fun k b hk => hh.below k b (joinH_l hk), fun k m b c hk hm hb hc e => hh.inj k m b c (joinH_l hk) (joinH_l hm) hb hc e, fun k b hk hb => ?_, fun b x => ?_⟩, fun i => (hr.tmps i).sub hav, hr.size, hr.out, hr.below, hr.defers⟩
  · exact (hh.blk k b (joinH_l hk)).mono (Goes.refl _ _) (fun b _ x => hav b x) (fun _ _ => rfl) (hh.below k b (joinH_l hk)) (fun _ => rfl)
  · rintro (x | ⟨m, c, hm, hc, e⟩)
    · exact hh.out k b (joinH_l hk) hb x
    · have := hh.inj m k c b (hd.get hm) (joinH_l hk) hc hb e
      subst this
      exact hd m b c hk hm
  · rcases x with x | ⟨m, c, hm, hc, rfl⟩
    · exact hh.fsz b x
    · exact (hh.blk m c (hd.get hm)).lt hc
/-- what was hidden is there again, as it was -/
theorem rep_show {F : Nat → Prop} {ids ids' : Nat → Nat × Nat} {w w' : World} {M M' : Nm} {t t' : Nat → V} {h h' g : Hp} {n n' b0 : Nat} {a a' : Act} (hr : RepT F ids w M t (joinH h g) n a) (hd : Apart h g) (hd' : Apart h' g)
    (hg : ∀ k c, g k = some c → k < b0 ∧ c.Below (Lt b0)) (hM : ∀ k, k < b0 → M' k) (hr' : RepT (fun b => F b ∨ Live g ids b) ids' w' M' t' h' n' a') (hk : Keep (Lt b0) ids w h ids' w' h') : RepT F ids' w' M' t' (joinH h' g) n' a' ∧ Keep (Lt b0) ids w (joinH h g) ids' w' (joinH h' g) := by
  have hh := hr.heap
  have hh' := hr'.heap
  have hlg : ∀ b, Live g ids' b ↔ Live g ids b := fun b => by
    constructor
    · rintro ⟨m, c, hm, hc, e⟩
      exact ⟨m, c, hm, hc, by rw [← hk.ids m (hg m c hm).1]; exact e⟩
    · rintro ⟨m, c, hm, hc, e⟩
      exact ⟨m, c, hm, hc, by rw [hk.ids m (hg m c hm).1]; exact e⟩
  have hav : ∀ b, Avoid F (joinH h' g) ids' b → Avoid (fun b => F b ∨ Live g ids b) h' ids' b := by
    rintro b (x | x)
    · exact .inl (.inl x)
    · rcases (live_join hd').1 x with x | x
      · exact .inr x
      · exact .inl (.inr ((hlg b).1 x))
  have hlv : ∀ b, b < w.heap.size → Live (joinH h' g) ids' b → Live (joinH h g) ids b := fun b hb x => by
    rcases (live_join hd').1 x with x | x
    · exact (live_join hd).2 (.inl (hk.live b hb x))
    · exact (live_join hd).2 (.inr ((hlg b).1 x))
  have hnl : ∀ k c, g k = some c → c.real = true → ¬ Live h ids (ids k).1 := fun k c hc hcr ⟨m, d, hm, hdr, e⟩ => by
    have := hh.inj m k d c (joinH_l hm) (hd.get hc) hdr hcr e
    subst this
    exact hd m d c hm hc
  refine ⟨⟨⟨fun k b e => ?_, fun k b e => ?_, fun k b e => ?_, fun k m b c e f hb hc he => ?_, fun k b e hb => ?_, fun b x => Nat.lt_of_lt_of_le (hh.fsz b x) hk.goes.size⟩, fun i => (hr'.tmps i).sub hav, hr'.size, hr'.out, hr'.below, hr'.defers⟩,
    ⟨hk.goes.weaken fun b _ x => (live_join hd).2 (.inl x), hlv, hk.ids⟩⟩
  · rcases joinH_or e with e | ⟨_, e⟩
    · exact hh'.lt k b e
    · exact hM k (hg k b e).1
  · rcases joinH_or e with e | ⟨_, e⟩
    · exact (hh'.blk k b e).mono (Goes.refl _ _) (fun b _ x => hav b x) (fun _ _ => rfl) (hh'.below k b e) (fun _ => rfl)
    · have h1 := hh.blk k b (hd.get e)
      rw [hk.ids k (hg k b e).1]
      exact h1.mono (hk.goes.weaken (A' := Avoid F (joinH h g) ids) fun c _ x => .inr ((live_join hd).2 (.inl x))) (fun c hc x => x.imp id (hlv c hc)) hk.ids (hg k b e).2 fun hb => hk.goes.same _ (h1.lt hb) (hnl k b e hb)
  · rcases joinH_or e with e | ⟨_, e⟩
    · exact hh'.below k b e
    · exact (hg k b e).2.mono fun j hj => hM j hj
  · rcases joinH_or e with e | ⟨_, e⟩
    · rcases joinH_or f with f | ⟨_, f⟩
      · exact hh'.inj k m b c e f hb hc he
      · exact (hh'.out k b e hb (.inr ⟨m, c, f, hc, by rw [he, hk.ids m (hg m c f).1]⟩)).elim
    · rcases joinH_or f with f | ⟨_, f⟩
      · exact (hh'.out m c f hc (.inr ⟨k, b, e, hb, by rw [← he, hk.ids k (hg k b e).1]⟩)).elim
      · rw [hk.ids k (hg k b e).1, hk.ids m (hg m c f).1] at he
        exact hh.inj k m b c (hd.get e) (hd.get f) hb hc he
  · rcases joinH_or e with e | ⟨_, e⟩
    · exact fun x => hh'.out k b e hb (.inl x)
    · rw [hk.ids k (hg k b e).1]
      exact hh.out k b (hd.get e) hb
section
variable {P : Program} {tab : Tab}
/-- a piece of code that does not see the blocks of g leaves them as they are -/
theorem AWP.hide {c : Code} {b0 N n b : Nat} {Q : Ex → St → Prop} {t : Nat → V} {h g : Hp} (hd : Apart h g) (hg : ∀ k c, g k = some c → k < b0 ∧ c.Below (Lt b0)) (hN : N ≤ b0) (hr : AWP P (Lt b0) c Q ⟨t, h, b, n⟩)
    (hQ : ∀ x s', Q x s' → b0 ≤ s'.b ∧ Apart s'.h g) : AWP P (Lt N) c (fun x s' => ∃ h', s'.h = joinH h' g ∧ Q x { s' with h := h' }) ⟨t, joinH h g, b, n⟩ := by
  intro rd hrd dep F ids w a hrep
  refine wpIn_mono (hr rd hrd dep _ ids w a (rep_hide hrep hd)) ?_
  rintro e a' w' ⟨x, s', ids', hx, hq, hr', hk⟩
  obtain ⟨q1, q2⟩ := hQ x s' hq
  obtain ⟨r1, r2⟩ := rep_show hrep hd q2 hg (M' := Lt s'.b) (fun k hk => Nat.lt_of_lt_of_le hk q1) hr' hk.toKeep
  exact ⟨x, { s' with h := joinH s'.h g }, ids', hx, ⟨s'.h, rfl, hq⟩, r1, ⟨⟨r2.goes, r2.live, fun m hm => r2.ids m (Nat.lt_of_lt_of_le hm hN)⟩, hk.news⟩⟩
/-- no name of h is one of G -/
def apartL (h G : List (Nat × B)) : Bool := h.all fun p => !(G.any fun q => Nat.beq q.1 p.1)
theorem apartL_of {h G : List (Nat × B)} (e : apartL h G = true) : Apart (hAt h) (hAt G) := by
  intro k b c h1 h2
  have h3 := List.all_eq_true.1 e _ (hAt_mem h1)
  have h4 : (G.any fun q => Nat.beq q.1 k) = true := List.any_eq_true.2 ⟨_, hAt_mem h2, Nat.beq_refl k⟩
  dsimp only at h3
  rw [h4] at h3
  cases h3
/-- the state T, H stands for t, h; the blocks of G lie beside both -/
noncomputable def subKF (O : List Nat) (ρ : List (Nat × Nat)) (N b : Nat) (T : List V) (H G : List (Nat × B)) (t : List V) (h : List (Nat × B)) : Prop :=
  okK (ρ.all fun p => Nat.ble N p.1) (okK (noTwice ((H ++ G).map fun p => ren1 ρ p.1)) (okK (apartL h G) (subT (ren1 ρ) (frOf (ren1 ρ) (H ++ G)) h b T t (subHO O (ren1 ρ) (frOf (ren1 ρ) (H ++ G)) b H h True))))
theorem subKF_of {O : List Nat} {ρ : List (Nat × Nat)} {N b b' : Nat} {T t : List V} {H G h : List (Nat × B)} (hk : subKF O ρ N b T H G t h) (hfix : ∀ p ∈ G, p.1 < b ∧ p.2.Below (Lt b) ∧ ren1 ρ p.1 = p.1 ∧ renB (ren1 ρ) p.2 = p.2) :
    Sub (Lt N) ⟨tAt t, hAt (h ++ G), b', t.length⟩ ⟨tAt T, hAt (H ++ G), b, T.length⟩ ∧ T.length = t.length := by
  obtain ⟨e1, hk⟩ := okK_of hk
  obtain ⟨e2, hk⟩ := okK_of hk
  obtain ⟨e3, hk⟩ := okK_of hk
  obtain ⟨hk, hlen, hT⟩ := subT_of hk
  obtain ⟨_, hH⟩ := subHO_of hk
  refine ⟨?_, hlen⟩
  have hap := apartL_of e3
  have hag : ∀ n, frOf (ren1 ρ) (H ++ G) n = true → hAt (h ++ G) n = hAt h n := fun n hn => by
    rw [hAt_app]
    cases hg : hAt G n with
    | none =>
      cases hx : hAt h n with
      | none => rw [joinH_r hx, hg]
      | some c => exact joinH_l hx
    | some c =>
      exfalso
      have h1 := hfix _ (hAt_mem hg)
      have h2 : frOf (ren1 ρ) (H ++ G) n = false := by
        unfold frOf
        rw [List.any_eq_true.2 ⟨(n, c), List.mem_append_right _ (hAt_mem hg), by rw [h1.2.2.1]; exact Nat.beq_refl n⟩]
        rfl
      rw [h2] at hn; cases hn
  have hweak : ∀ {v u : V}, Weak (frOf (ren1 ρ) (H ++ G)) h (ren1 ρ) v u → Weak (frOf (ren1 ρ) (H ++ G)) (h ++ G) (ren1 ρ) v u := fun hw h2 hh => hw h2 fun n hn => (hh n hn).trans (hag n hn)
  have hren : Ren (ren1 ρ) (hAt (h ++ G)) (hAt (H ++ G)) (Lt b) := by
    refine subH_ren (noTwice_nodup e2) fun p hp => ?_
    rcases List.mem_append.1 hp with hp | hp
    · obtain ⟨a1, a2, a3⟩ := hH p hp
      refine ⟨a1, a2, a3.imp ?_ id⟩
      rintro ⟨b1, c1, c2⟩
      exact ⟨b1, by rw [hAt_app]; exact joinH_l c1, fun h2 hh => c2 h2 fun n hn => (hh n hn).trans (hag n hn)⟩
    · obtain ⟨a1, a2, a3, a4⟩ := hfix p hp
      have hnd : (G.map Prod.fst).Nodup := by
        have h1 := noTwice_nodup e2
        rw [List.map_append, List.nodup_append] at h1
        have h2 := h1.2.1
        rwa [List.map_congr_left (g := Prod.fst) fun q hq => (hfix q hq).2.2.1] at h2
      refine ⟨a1, a2, .inl ⟨p.2, ?_, fun h2 _ => ?_⟩⟩
      · rw [a3, hAt_app]
        exact hap.get (hAt_of_mem hnd p hp)
      · have := WkB.ren (h := h2) (X := fun n => frOf (ren1 ρ) (H ++ G) n = false) (ren1 ρ) p.2
        rwa [a4] at this
  intro F ids w a hr
  refine ⟨fun n => ids (ren1 ρ n), ⟨hren.heap hr.heap, fun i => ?_, by rw [hlen]; exact hr.size, fun i hi => ?_, fun i => (hT i).1, hr.defers⟩, ⟨Goes.refl _ _, fun b _ x => ?_, fun n hn => by rw [ren1_id e1 hn]⟩⟩
  · exact (hweak (hT i).2).rep hren hr.heap (hr.tmps i)
  · show tAt T i = .un
    rw [tAt_get, List.getElem?_eq_none hi]; rfl
  · obtain ⟨n, c, hn, hcr, hb⟩ := x
    obtain ⟨b', h1, h2, _⟩ := hren.real hn hcr
    exact ⟨ren1 ρ n, _, h1, h2, hb⟩
/-- the round is done: E of the family lay open, G lay hidden; the next one begins in the state of y -/
inductive NextF {α : Type} (O : List Nat) (I : α → Prop) (μ : α → Nat) (x : α) (N b : Nat) (T : α → List V) (H Fm : α → List (Nat × B)) (G : List (Nat × B)) (t : List V) (h : List (Nat × B)) : Prop
  | mk (ρ : List (Nat × Nat)) (y : α) (E : List (Nat × B)) (hI : I y) (hμ : μ y < μ x) (hG : hAt (Fm y) = hAt (E ++ G)) (hfix : ∀ p ∈ G, p.1 < b ∧ p.2.Below (Lt b) ∧ ren1 ρ p.1 = p.1 ∧ renB (ren1 ρ) p.2 = p.2)
      (hs : subKF O ρ N b (T y) (H y ++ E) G t h) : NextF O I μ x N b T H Fm G t h
/-- a round: E of the family lies open, G hidden -/
inductive RoundF {α : Type} (O : List Nat) (P : Program) (tab : Tab) (N : Nat) (c : Code) (b : Nat) (K : Ex → List V → List (Nat × B) → Nat → Prop) (I : α → Prop) (μ : α → Nat) (T : α → List V) (H Fm : α → List (Nat × B)) (x : α) : Prop
  | mk (E G : List (Nat × B)) (hF : hAt (Fm x) = hAt (E ++ G)) (hap : apartL (H x ++ E) G = true) (hfix : ∀ p ∈ G, p.1 < b ∧ p.2.Below (Lt b))
      (run : headsK (T x) fun t => listK (H x ++ E) fun h => codeK P tab b c t h b fun e t' h' b' => match e with
        | .normal => okK (apartL h' G) (NextF O I μ x N b T H Fm G t' h')
        | .exit i => okK (apartL h' G) (listK (h' ++ G) fun h' => K (.exit i) t' h' b')
        | .ret => okK (apartL h' G) (listK (h' ++ G) fun h' => K .ret t' h' b')) : RoundF O P tab N c b K I μ T H Fm x
/-- a loop whose rounds touch part of a family of blocks -/
theorem loopF (ht : TabOk P tab) (hmix : P.follows .mixedOrders = true) {α : Type} {N : Nat} {c : Code} {t : List V} {h : List (Nat × B)} {b : Nat} {K : Ex → List V → List (Nat × B) → Nat → Prop}
    (O : List Nat) (ks : List Nat) (kh : List Nat) (ch : α → List (Nat × V)) (hc Fm : α → List (Nat × B)) (I : α → Prop) (μ : α → Nat) (ρ : List (Nat × Nat)) (x : α) (hb : Nat.ble N b = true) (h0 : I x)
    (hs : subKO O ρ N b (putsT (ch x) (keepT 0 ks t)) ((hc x ++ keepH kh h) ++ Fm x) t h)
    (round : ∀ x, I x → RoundF O P tab N c b K I μ (fun x => putsT (ch x) (keepT 0 ks t)) (fun x => hc x ++ keepH kh h) Fm x) : LoopB P tab N c t h b K := by
  have hb := Nat.le_of_ble_eq_true hb
  refine ⟨hb, ?_⟩
  obtain ⟨hs, hs2⟩ := subKO_of (b' := b) hs
  refine AWP.sub hs ?_
  refine awp_loop (fun x => ⟨tAt (putsT (ch x) (keepT 0 ks t)), hAt ((hc x ++ keepH kh h) ++ Fm x), b, (putsT (ch x) (keepT 0 ks t)).length⟩) I μ (fun x hx => ?_) h0
  obtain ⟨E, G, hF, hap, hfix, run⟩ := round x hx
  have hr := listK_of (headsK_of run)
  have hap := apartL_of hap
  have he : hAt ((hc x ++ keepH kh h) ++ Fm x) = joinH (hAt ((hc x ++ keepH kh h) ++ E)) (hAt G) := by
    rw [hAt_app, hF, ← hAt_app, ← List.append_assoc, hAt_app]
  have hgf : ∀ k c, hAt G k = some c → k < b ∧ c.Below (Lt b) := fun k c hk => hfix _ (hAt_mem hk)
  have haw := codeK_of ht hmix c _ _ b _ (Nat.le_refl b) hr
  show AWP P (Lt N) c _ ⟨_, hAt ((hc x ++ keepH kh h) ++ Fm x), b, _⟩
  rw [he]
  refine AWP.mono (AWP.hide hap hgf hb haw ?_) ?_
  · rintro e s ⟨t', h', b', rfl, e1, hb', hk⟩
    refine ⟨hb', ?_⟩
    cases e with
    | normal => exact apartL_of (okK_of hk).1
    | exit i => exact apartL_of (okK_of hk).1
    | ret => exact apartL_of (okK_of hk).1
  · rintro e s ⟨h1, hsh, ⟨t', h', b', hse, e1, hb', hk⟩⟩
    have hst : s = ⟨tAt t', joinH (hAt h') (hAt G), b', t'.length⟩ := by
      obtain ⟨st, sh, sb, sn⟩ := s
      simp only [St.mk.injEq] at hse
      obtain ⟨a1, a2, a3, a4⟩ := hse
      dsimp only at hsh
      subst a1 a2 a3 a4 hsh
      rfl
    subst hst
    rw [← hAt_app]
    cases e with
    | normal =>
      obtain ⟨_, hk⟩ := okK_of hk
      obtain ⟨ρ, y, E', hI, hμ, hG, hfx, hs⟩ := hk
      refine ⟨y, hI, hμ, ?_⟩
      have := (subKF_of (b' := b') hs hfx).1
      have he2 : hAt ((hc y ++ keepH kh h) ++ Fm y) = hAt (((hc y ++ keepH kh h) ++ E') ++ G) := by
        rw [hAt_app, hG, ← hAt_app, ← List.append_assoc]
      rw [he2]
      exact this
    | exit i =>
      obtain ⟨_, hk⟩ := okK_of hk
      exact ⟨t', h' ++ G, b', rfl, by rw [e1, putsT_len, keepT_len], Nat.le_trans hb hb', listK_of hk⟩
    | ret =>
      obtain ⟨_, hk⟩ := okK_of hk
      exact ⟨t', h' ++ G, b', rfl, by rw [e1, putsT_len, keepT_len], Nat.le_trans hb hb', listK_of hk⟩
end
end Go.Proofs.YtcffiehcdadimaaGreat.Abs
