/- The abstract machine, part 23: calls of functions that are lent named blocks, reckoned. -/
import Derived.Test.YtmihhkcbbdpnaaaC7
namespace Go.Proofs.Ytmihhkcbbdpnaaa.Abs
set_option linter.unusedVariables false
set_option linter.unusedSimpArgs false

/-- a number, reckoned out -/
def natK (n : Nat) (K : Nat → Prop) : Prop :=
  match n with
  | 0 => K 0
  | m + 1 => sucK m K
theorem natK_of {n : Nat} {K : Nat → Prop} (h : natK n K) : K n := by
  cases n with
  | zero => exact h
  | succ m => exact sucK_of h
abbrev NatsT := (List Nat → Prop) → Prop
def natsCons (x : Nat) (l : List Nat) (ih : NatsT) : NatsT := fun K => natK x fun x => ih fun l => K (x :: l)
noncomputable def natsK (l : List Nat) : NatsT := List.rec (motive := fun _ => NatsT) (fun K => K []) natsCons l
theorem natsK_of : ∀ {l : List Nat} {K : List Nat → Prop}, natsK l K → K l
  | [], _, h => h
  | x :: l, K, h => natsK_of (l := l) (K := fun l => K (x :: l)) (natK_of (K := fun x => natsK l fun l => K (x :: l)) h)
noncomputable def namesK (σ : Nat → Nat) (H : List (Nat × B)) (K : List Nat → Prop) : Prop := natsK (H.map fun p => σ p.1) K
theorem namesK_of {σ : Nat → Nat} {H : List (Nat × B)} {K : List Nat → Prop} (h : namesK σ H K) : K (H.map fun p => σ p.1) := natsK_of h
/-- a value with its name reckoned out -/
def nheadK (x : V) (K : V → Prop) : Prop :=
  match x with
  | .sl n sz off len => natK n fun n => K (.sl n sz off len)
  | .ac n sz len => natK n fun n => K (.ac n sz len)
  | .sx n sz off len cap => natK n fun n => K (.sx n sz off len cap)
  | .p n sz i j => natK n fun n => K (.p n sz i j)
  | .mp n => natK n fun n => K (.mp n)
  | x => headK x K
theorem nheadK_of {x : V} {K : V → Prop} (h : nheadK x K) : K x := by
  unfold nheadK at h
  split at h
  · exact natK_of (K := fun n => K (.sl n _ _ _)) h
  · exact natK_of (K := fun n => K (.ac n _ _)) h
  · exact natK_of (K := fun n => K (.sx n _ _ _ _)) h
  · exact natK_of (K := fun n => K (.p n _ _ _)) h
  · exact natK_of (K := fun n => K (.mp n)) h
  · exact headK_of h
abbrev NheadsT := (List V → Prop) → Prop
def nheadsCons (x : V) (l : List V) (ih : NheadsT) : NheadsT := fun K => nheadK x fun x => ih fun l => K (x :: l)
noncomputable def nheadsK (l : List V) : NheadsT := List.rec (motive := fun _ => NheadsT) (fun K => K []) nheadsCons l
theorem nheadsK_of : ∀ {l : List V} {K : List V → Prop}, nheadsK l K → K l
  | [], _, h => h
  | x :: l, K, h => nheadsK_of (l := l) (K := fun l => K (x :: l)) (nheadK_of (K := fun x => nheadsK l fun l => K (x :: l)) h)
def nvalK (x : V) (K : V → Prop) : Prop :=
  match x with
  | .agg xs => nheadsK xs fun xs => K (.agg xs)
  | .tup xs => nheadsK xs fun xs => K (.tup xs)
  | .fn f a b => nheadsK a fun a => nheadsK b fun b => K (.fn f a b)
  | .ifc t x => nheadK x fun x => K (.ifc t x)
  | x => nheadK x K
theorem nvalK_of {x : V} {K : V → Prop} (h : nvalK x K) : K x := by
  unfold nvalK at h
  split at h
  · exact nheadsK_of (K := fun xs => K (.agg xs)) h
  · exact nheadsK_of (K := fun xs => K (.tup xs)) h
  · exact nheadsK_of (K := fun b => K (.fn _ _ b)) (nheadsK_of (K := fun a => nheadsK _ fun b => K (.fn _ a b)) h)
  · exact nheadK_of (K := fun x => K (.ifc _ x)) h
  · exact nheadK_of h
abbrev NrowsT := (List (List V) → Prop) → Prop
def nrowsCons (x : List V) (l : List (List V)) (ih : NrowsT) : NrowsT := fun K => nheadsK x fun x => ih fun l => K (x :: l)
noncomputable def nrowsK (l : List (List V)) : NrowsT := List.rec (motive := fun _ => NrowsT) (fun K => K []) nrowsCons l
theorem nrowsK_of : ∀ {l : List (List V)} {K : List (List V) → Prop}, nrowsK l K → K l
  | [], _, h => h
  | x :: l, K, h => nrowsK_of (l := l) (K := fun l => K (x :: l)) (nheadsK_of (K := fun x => nrowsK l fun l => K (x :: l)) h)
/-- a block, reckoned out -/
def blkK (b : B) (K : B → Prop) : Prop :=
  match b with
  | .dat sz r => K (.dat sz r)
  | .rows sz r => nrowsK r fun r => K (.rows sz r)
  | .map es => K (.map es)
theorem blkK_of {b : B} {K : B → Prop} (h : blkK b K) : K b := by
  cases b with
  | rows sz r => exact nrowsK_of (K := fun r => K (.rows sz r)) h
  | _ => exact h
abbrev EffT := List (Nat × B) → (List (Nat × B) → Prop) → Prop
def effNil : EffT := fun h K => K h
def effCons (p : Nat × Option B) (u : List (Nat × Option B)) (ih : EffT) : EffT := fun h K =>
  natK p.1 fun n => match p.2 with
    | none => hDel h n fun h => ih h K
    | some b => blkK b fun b => hSet h n b fun h => ih h K
noncomputable def effK (u : List (Nat × Option B)) : EffT := List.rec (motive := fun _ => EffT) effNil effCons u
theorem effK_of : ∀ {u : List (Nat × Option B)} {h : List (Nat × B)} {K : List (Nat × B) → Prop}, effK u h K → ∃ l, K l ∧ hAt l = appU (hAt h) u
  | [], h, K, hk => ⟨h, hk, rfl⟩
  | (n, none) :: u, h, K, hk => by
    obtain ⟨h', h1, h2⟩ := hDel_of (natK_of (K := fun n => hDel h n fun h => effK u h K) hk)
    obtain ⟨l, h3, h4⟩ := effK_of h1
    exact ⟨l, h3, by rw [h4, h2]; rfl⟩
  | (n, some b) :: u, h, K, hk => by
    have hk := natK_of (K := fun n => blkK b fun b => hSet h n b fun h => effK u h K) hk
    obtain ⟨h', h1, h2⟩ := hSet_of (blkK_of (K := fun b => hSet h n b fun h => effK u h K) hk)
    obtain ⟨l, h3, h4⟩ := effK_of h1
    exact ⟨l, h3, by rw [h4, h2]; rfl⟩
def lentAll (σ : Nat → Nat) (H H' : List (Nat × B)) : List Nat := (H.map fun p => σ p.1) ++ H'.map fun p => σ p.1
def lOk (L : List (Option Nat)) (xs : List V) (H : List (Nat × B)) (σ : Nat → Nat) : Bool :=
  L.all fun o => match o with
    | some x => (namesOf xs).contains x || H.any fun p => Nat.beq (σ p.1) x && (Nat.blt (σ p.1) (σ p.1 + 1) && p.2.real)
    | none => true
noncomputable def lcallK (args : List V) (H : List (Nat × B)) (N : Nat) (r : V) (H' : List (Nat × B)) (N' : Nat) (xs : List V) (h : List (Nat × B)) (nm : Nat) (L : List (Option Nat)) (Z : List Nat) (K : V → List (Nat × B) → Dyn → Prop) : Prop :=
  namesK (sgm L nm 0) H fun A => namesK (sgm L nm 0) H' fun A' =>
  okK (Nat.beq L.length N) (okK (Nat.ble N 32) (okK (Nat.ble N' (N + 32)) (okK (lOk L xs H (sgm L nm 0)) (okK (noTwice A) (okK (noTwice A')
  (okK (A.all fun n => !Z.contains n) (okK ((A.all fun n => Nat.blt n nm) || H.all fun p => Nat.blt (sgm L nm 0 p.1) nm || !p.2.real) (okK (((A ++ A').filter fun n => Nat.ble nm n).all fun n => Nat.blt n (nm + 64))
  (passT (sgm L nm 0) N Z h args xs (subH (sgm L nm 0) (fun n => Z.contains n) N H h (effK (effOf (sgm L nm 0) Z H H') h fun l => nvalK (renV (sgm L nm 0) r) fun v =>
    listK (Z ++ (A ++ A').filter fun n => Nat.blt n nm) fun hw => listK ((A ++ A').filter fun n => Nat.ble nm n) fun nw => K v l ⟨[], hw, nw, false⟩)))))))))))

section
variable {P : Program} {tab : Tab}
theorem Below_name {M : Nm} {x : V} (h : x.Below M) : ∀ n ∈ nameOf x, M n := by
  induction h with
  | un => simp [nameOf]
  | c v => simp [nameOf]
  | lst => simp [nameOf]
  | q => simp [nameOf]
  | sl n sz off len h => simpa [nameOf] using h
  | ac n sz len h => simpa [nameOf] using h
  | sx n sz off len cap h => simpa [nameOf] using h
  | p n sz i j h => simpa [nameOf] using h
  | mp n h => simpa [nameOf] using h
  | agg xs h ih => intro n hn; simp only [nameOf] at hn; obtain ⟨x, hx, hn⟩ := mem_namesOf.1 hn; exact ih x hx n hn
  | tup xs h ih => intro n hn; simp only [nameOf] at hn; obtain ⟨x, hx, hn⟩ := mem_namesOf.1 hn; exact ih x hx n hn
  | fn f a b h h' ih ih' =>
    intro n hn
    simp only [nameOf, List.mem_append] at hn
    rcases hn with hn | hn <;> obtain ⟨x, hx, hn⟩ := mem_namesOf.1 hn
    · exact ih x hx n hn
    · exact ih' x hx n hn
  | ifc t x h ih => intro n hn; simp only [nameOf] at hn; exact ih n hn
theorem lcallK_of {f : FuncId} {args : List V} {H : List (Nat × B)} {r : V} {H' : List (Nat × B)} {N N' : Nat} (hs : LSpec P f args H N r H' N') {xs : List V} {h : List (Nat × B)} {nm : Nat} {L : List (Option Nat)} {Z : List Nat} {K : V → List (Nat × B) → Dyn → Prop}
    (hk : lcallK args H N r H' N' xs h nm L Z K) : ∃ d u l, d.x = false ∧ LCall P f xs d nm u (renV (sgm L nm 0) r) (hAt h) ∧ hAt l = appU (hAt h) u ∧ K (renV (sgm L nm 0) r) l d := by
  replace hk := namesK_of (namesK_of (K := fun A => namesK _ H' fun A' => _) hk)
  generalize hσ : sgm L nm 0 = σ at *
  obtain ⟨g1, hk⟩ := okK_of hk
  obtain ⟨g2, hk⟩ := okK_of hk
  obtain ⟨g3, hk⟩ := okK_of hk
  obtain ⟨g4, hk⟩ := okK_of hk
  obtain ⟨g5, hk⟩ := okK_of hk
  obtain ⟨g6, hk⟩ := okK_of hk
  obtain ⟨g7, hk⟩ := okK_of hk
  obtain ⟨g7', hk⟩ := okK_of hk
  obtain ⟨g8, hk⟩ := okK_of hk
  obtain ⟨hk, g9, g10⟩ := passT_of hk
  obtain ⟨hk, g11⟩ := subH_of hk
  obtain ⟨l, hk, g12⟩ := effK_of hk
  replace hk := nvalK_of (K := fun v => listK _ fun hw => listK _ fun nw => K v l ⟨[], hw, nw, false⟩) hk
  replace hk := listK_of (listK_of hk)
  refine ⟨_, _, l, rfl, ⟨?_, ?_, ?_⟩, g12, hk⟩
  · intro n hn
    simp only [namesU, effOf, List.map_append, List.map_map, List.mem_append, List.mem_map, Function.comp] at hn
    simp only [List.mem_append, List.mem_filter, List.mem_map, Nat.blt_eq, Nat.ble_eq]
    by_cases hlt : n < nm
    · rcases hn with (⟨z, hz, rfl⟩ | ⟨p, hp, rfl⟩) | ⟨p, hp, rfl⟩
      · exact .inl (.inl hz)
      · exact .inl (.inr ⟨.inl ⟨p, hp, rfl⟩, hlt⟩)
      · exact .inl (.inr ⟨.inr ⟨p, hp, rfl⟩, hlt⟩)
    · rcases hn with (⟨z, hz, rfl⟩ | ⟨p, hp, rfl⟩) | ⟨p, hp, rfl⟩
      · exact .inl (.inl hz)
      · exact .inr ⟨.inl ⟨p, hp, rfl⟩, by omega⟩
      · exact .inr ⟨.inr ⟨p, hp, rfl⟩, by omega⟩
  · intro n hn
    have h1 := List.all_eq_true.1 g8 n hn
    rw [List.mem_filter] at hn
    exact ⟨Nat.le_of_ble_eq_true hn.2, by simpa using h1⟩
  · intro h2 he M hfresh hbel
    have eZ : ∀ n ∈ Z, h2 n = hAt h n := fun n hn => he n (.inr (by simp [hn]))
    have hH : ∀ p ∈ H, ((∃ b', h2 (σ p.1) = some b' ∧ WkB h2 (fun n => n ∉ Z) σ p.2 b') ∨ p.2.real = false) ∧ σ p.1 ∉ Z := by
      intro p hp
      have h1 : Nat.blt (σ p.1) nm = true ∨ (!p.2.real) = true := by
        rw [Bool.or_eq_true] at g7'
        rcases g7' with g | g
        · exact .inl (List.all_eq_true.1 g _ (List.mem_map.2 ⟨p, hp, rfl⟩))
        · have := List.all_eq_true.1 g p hp
          rwa [Bool.or_eq_true] at this
      refine ⟨?_, by simpa using List.all_eq_true.1 g7 _ (List.mem_map.2 ⟨p, hp, rfl⟩)⟩
      rcases h1 with h1 | h1
      · have : h2 (σ p.1) = hAt h (σ p.1) := he _ (.inr (List.mem_append_right _ (List.mem_filter.2 ⟨List.mem_append_left _ (List.mem_map.2 ⟨p, hp, rfl⟩), h1⟩)))
        rw [this]
        rcases (g11 p hp).2.2 with ⟨b', q1, q2⟩ | q1
        · have q3 := q2 h2 fun n hn => eZ n (by simpa using hn)
          have e : (fun n => Z.contains n = false) = fun n => n ∉ Z := by funext n; simp
          exact .inl ⟨b', q1, by rw [← e]; exact q3⟩
        · exact .inr q1
      · exact .inr (by simpa using h1)
    subst hσ
    refine ACall.mono ?_ (fun v h' e => e)
    intro F ids w vals hh hsz hv
    refine LSpec.run hs L Z hfresh (Nat.eq_of_beq_eq_true g1) ?_ (Nat.le_of_ble_eq_true g2) (Nat.le_of_ble_eq_true g3) g9 ?_ hH (noTwice_nodup g5) (noTwice_nodup g6) F ids w vals hh hsz hv
    · intro x hx
      have h1 := List.all_eq_true.1 g4 (some x) hx
      dsimp only at h1
      rw [Bool.or_eq_true] at h1
      rcases h1 with h1 | h1
      · obtain ⟨y, hy, hn⟩ := mem_namesOf.1 (by simpa using h1)
        exact Below_name (hbel y hy) x hn
      · obtain ⟨p, hp, h1⟩ := List.any_eq_true.1 h1
        simp only [Bool.and_eq_true] at h1
        have hr := h1.2.2
        obtain ⟨b', this, _⟩ := (hH p hp).1.resolve_right (by simp [hr])
        rw [Nat.eq_of_beq_eq_true h1.1] at this
        exact hh.lt _ _ this
    · exact g10 h2 eZ
/-- a call of a function that is lent blocks -/
theorem dcallL {f : FuncId} {args : List V} {H : List (Nat × B)} {r : V} {H' : List (Nat × B)} {N N' : Nat} {xs : List V} {h : List (Nat × B)} {nm : Nat} {K : V → List (Nat × B) → Dyn → Prop} (hs : LSpec P f args H N r H' N') (L : List (Option Nat)) (Z : List Nat)
    (hk : lcallK args H N r H' N' xs h nm L Z K) : DCallB P f xs h nm K := by
  obtain ⟨d, u, l, h1, h2, h3, h4⟩ := lcallK_of hs hk
  exact ⟨d, _, u, l, h1, h2, h3, h4⟩
theorem callL {f : FuncId} {args : List V} {H : List (Nat × B)} {r : V} {H' : List (Nat × B)} {N N' : Nat} {xs : List V} {h : List (Nat × B)} {nm : Nat} {K : V → List (Nat × B) → Prop} (hs : LSpec P f args H N r H' N') (L : List (Option Nat)) (Z : List Nat)
    (hb : ltAll nm (namesOf xs) = true) (hk : lcallK args H N r H' N' xs h nm L Z fun v l d => K v l) : CallB P f xs h nm K := by
  obtain ⟨d, u, l, h1, h2, h3, h4⟩ := lcallK_of hs hk
  refine ⟨ACall.mono (h2.run _ (fun _ _ => rfl) (Lt nm) (fun k k1 k2 k3 => ?_) (all_belows hb)) ?_⟩
  · exact absurd k3 (Nat.not_lt.2 k1)
  · rintro v h' ⟨rfl, rfl⟩
    exact ⟨l, h3.symm, h4⟩
theorem lspec (ht : TabOk P tab) (hmix : P.follows .mixedOrders = true) {f : FuncId} {fn : Func} (hf : P.funcs[f]? = some fn) (hname : (fn.name == "runtime.NumGoroutine") = false)
    {args : List V} {H : List (Nat × B)} {N : Nat} {r : V} {H' : List (Nat × B)} {N' : Nat} (ha : ltAll N (namesOf args) = true) (hH : (H.all fun p => Nat.blt p.1 N && ltAll N (namesB p.2)) = true) (hNN : Nat.ble N N' = true) (hN : Nat.ble N 64 = true)
    (h : fnK P tab N fn args H 64 fun v h' b => RetL N N' r H' v h') : LSpec P f args H N r H' N' :=
  LSpec.of ht hmix hf hname (all_belows ha) (fun p hp => by
    have := List.all_eq_true.1 hH p hp
    rw [Bool.and_eq_true] at this
    exact ⟨by simpa using this.1, ltAll_belowB this.2⟩) (Nat.le_of_ble_eq_true hNN) (Nat.le_of_ble_eq_true hN) h
/-- what is handed back, given up as a whole -/
theorem frzK {h : List (Nat × B)} {v r : V} (hk : subV (fun n => n) (fun _ => true) h 0 r v True) : RetB h v r := by
  obtain ⟨_, h1, h2⟩ := subV_of hk
  refine .frz (.sem r v fun F ids w M hh x hx ids' => ?_)
  have h3 := h2 (hAt h) (fun _ _ => rfl) F F ids w M hh (fun _ x => .inl x) (fun n x hn hxr _ => hh.out n x hn hxr) x hx
  exact h3.mono (Goes.refl F w) (fun _ _ x => x) (m := Lt 0) (fun n hn => absurd hn (Nat.not_lt_zero n)) h1
end
end Go.Proofs.Ytmihhkcbbdpnaaa.Abs
