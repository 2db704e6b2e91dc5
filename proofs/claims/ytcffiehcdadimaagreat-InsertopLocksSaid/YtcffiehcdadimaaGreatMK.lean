/- Insertions of many threads: what the log says of the mutexes. -/
import Derived.Test.YtcffiehcdadimaaGreatMI
namespace Go.Proofs.YtcffiehcdadimaaGreat.Abs
set_option linter.unusedSimpArgs false
set_option linter.unusedVariables false
def RelA (x : Acc) : Prop:=0 ≤ x.th ∧ x.th ≤ 3 ∧ 0 ≤ x.idx ∧ 5 ≤ x.kind ∧ x.ok = true
instance (x : Acc) : Decidable (RelA x):=inferInstanceAs (Decidable (_ ∧ _))
def simH (H : Nat → Nat → Bool) (x : Acc) : Nat → Nat → Bool:=if RelA x then fun t i=>if t = x.th.toNat ∧ i = x.idx.toNat then decide (x.kind = 5) else H t i else H
theorem simH_rel {H : Nat → Nat → Bool} {x : Acc} (h : RelA x) : simH H x = fun t i=>if t = x.th.toNat ∧ i = x.idx.toNat then decide (x.kind = 5) else H t i:=by
 unfold simH;rw [if_pos h]
theorem simH_irr {H : Nat → Nat → Bool} {x : Acc} (h : ¬ RelA x) : simH H x = H:=by
 unfold simH;rw [if_neg h]
structure OkA (H : Nat → Nat → Bool) (x : Acc) : Prop where
 ix : x.idx ≤ 3
 was : H x.th.toNat x.idx.toNat = decide (x.kind = 6)
 inc : x.kind = 5 → ∀ m,x.idx.toNat ≤ m → m < 4 → H x.th.toNat m = false
theorem irr_of {x : Acc} (h : x.kind < 5 ∨ x.ok = false) : ¬ RelA x:=by
 rintro ⟨_,_,_,a,b⟩
 rcases h with h | h
 · omega
 · rw [h] at b;cases b
theorem touches_held (th : Int) (l : List Nat) (m : Mem) (j : Nat) : (m.touches th l).held j = m.held j:=by unfold Mem.held;rw [(touches_same th l m).2.1]
theorem unlock_ok {m : Mem} {th : Int} {i : Nat} (h : m.held i = (true,th)) (hi : i < m.mtx.length) : (m.unlock th i).1.log = m.log ++ [⟨th,6,i,1,0,true⟩] ∧ ∀ j,(m.unlock th i).1.held j = (if j = i then (false,0) else m.held j):=
 ⟨by unfold Mem.unlock;rw [if_pos h],fun j=>(Mem.held_unlock h hi j).1⟩
theorem step_log {n K : Nat} {s : Sto} {S : List Item} {A : Nat → Prop} (hb : SB n s S A K) {o : IOp} (ho : IOk n A o) (hnu : o.pc ≠ .undo) (hhd : ∀ i,i < 4 → o.Hd i → s.m.held i = (true,o.th)) :
 (∃ l,(o.step s).2.m.log = s.m.log ++ l ∧ (∀ x ∈ l,¬ RelA x) ∧ ∀ j,(o.step s).2.m.held j = s.m.held j) ∨
 (∃ i q,o.pc.mx = some (i,q) ∧ i < 4 ∧ (s.m.held i).1 = false ∧ (o.step s).2.m.log = s.m.log ++ [⟨o.th,5,i,0,1,true⟩] ∧ ∀ j,(o.step s).2.m.held j = if j = i then (true,o.th) else s.m.held j) ∨
 (∃ i,i < 4 ∧ s.m.held i = (true,o.th) ∧ (o.step s).2.m.log = s.m.log ++ [⟨o.th,6,i,1,0,true⟩] ∧ ∀ j,(o.step s).2.m.held j = if j = i then (false,0) else s.m.held j):=by
 have hm4 : s.m.mtx.length = 4:=hb.nm
 obtain ⟨shp,th0,early,tm,full,won,hand⟩:=ho
 obtain ⟨th,x,pc,hd,hh,e,ok,ef,bl⟩:=o
 dsimp only at shp hnu hhd
 have lock : ∀ (i : Nat) (p q : PC),pc = p → i < 4 → p.mx = some (i,q) → (IOp.step ⟨th,x,pc,hd,hh,e,ok,ef,bl⟩ s) = (IOp.lock ⟨th,x,pc,hd,hh,e,ok,ef,bl⟩ s i q) →
  (∃ l,(IOp.step ⟨th,x,pc,hd,hh,e,ok,ef,bl⟩ s).2.m.log = s.m.log ++ l ∧ (∀ x ∈ l,¬ RelA x) ∧ ∀ j,(IOp.step ⟨th,x,pc,hd,hh,e,ok,ef,bl⟩ s).2.m.held j = s.m.held j) ∨
  (∃ i q,pc.mx = some (i,q) ∧ i < 4 ∧ (s.m.held i).1 = false ∧ (IOp.step ⟨th,x,pc,hd,hh,e,ok,ef,bl⟩ s).2.m.log = s.m.log ++ [⟨th,5,i,0,1,true⟩] ∧ ∀ j,(IOp.step ⟨th,x,pc,hd,hh,e,ok,ef,bl⟩ s).2.m.held j = if j = i then (true,th) else s.m.held j) ∨
  (∃ i,i < 4 ∧ s.m.held i = (true,th) ∧ (IOp.step ⟨th,x,pc,hd,hh,e,ok,ef,bl⟩ s).2.m.log = s.m.log ++ [⟨th,6,i,1,0,true⟩] ∧ ∀ j,(IOp.step ⟨th,x,pc,hd,hh,e,ok,ef,bl⟩ s).2.m.held j = if j = i then (false,0) else s.m.held j):=by
  rintro i p q rfl hi hmx he
  rw [he]
  unfold IOp.lock
  dsimp only
  by_cases hl : (s.m.lock th i).2 = true
  · rw [if_pos hl]
    right;left
    refine ⟨i,q,hmx,hi,(Mem.held_lock hl (by omega) 0).2,?_,fun j=>(Mem.held_lock hl (by omega) j).1⟩
    unfold Mem.lock at hl ⊢
    split at hl
    · cases hl
    · next h=>rw [if_neg h]
  · rw [if_neg hl]
    have hl : (s.m.lock th i).2 = false:=by simpa using hl
    left
    refine ⟨[⟨th,5,i,1,1,false⟩],?_,fun y hy=>?_,fun j=>(Mem.held_nolock hl j).1⟩
    · dsimp only
      unfold Mem.lock at hl ⊢
      split at hl
      · next h=>rw [if_pos h]
      · cases hl
    · rw [List.mem_singleton] at hy;subst hy;exact irr_of (.inr rfl)
 have quiet : ∀ (s1 : Sto) (l : List Acc),s1.m.log = s.m.log ++ l → (∀ y ∈ l,y.kind < 5) → (∀ j,s1.m.held j = s.m.held j) → ∃ l,s1.m.log = s.m.log ++ l ∧ (∀ x ∈ l,¬ RelA x) ∧ ∀ j,s1.m.held j = s.m.held j:=
  fun s1 l h1 h2 h3=>⟨l,h1,fun y hy=>irr_of (.inl (h2 y hy)),h3⟩
 have ld : ∃ l,(s.m.load th 0).log = s.m.log ++ l ∧ (∀ x ∈ l,¬ RelA x) ∧ ∀ j,(s.m.load th 0).held j = s.m.held j:=
  quiet { s with m:=s.m.load th 0 } [_] rfl (fun y hy=>by rw [List.mem_singleton] at hy;subst hy;show (1 : Int) < 5;omega) fun j=>rfl
 have alloc : pc = .alloc → ∃ l,(IOp.step ⟨th,x,pc,hd,hh,e,ok,ef,bl⟩ s).2.m.log = s.m.log ++ l ∧ (∀ x ∈ l,¬ RelA x) ∧ ∀ j,(IOp.step ⟨th,x,pc,hd,hh,e,ok,ef,bl⟩ s).2.m.held j = s.m.held j:=by
  rintro rfl
  unfold IOp.step
  dsimp only
  rcases hb.last with hid | ⟨l,i,hid,hi,h1,_⟩
  · rw [allocF_nil hid,if_neg Bool.false_ne_true]
    exact quiet _ [] (by show (s.m.touches th [3]).log = _;rw [(touches_same th [3] s.m).2.2.1];simp) (fun y hy=>by cases hy) fun j=>touches_held th [3] s.m j
  · rw [allocF_last hid,if_pos rfl]
    exact quiet _ [_] (by show (s.m.touches th [3]).log ++ _ = _;rw [(touches_same th [3] s.m).2.2.1]) (fun y hy=>by rw [List.mem_singleton] at hy;subst hy;show (4 : Int) < 5;omega) fun j=>touches_held th [3] s.m j
 have ul : ∀ (s1 : Sto) (k i : Nat),s1.m.log = s.m.log → s1.m.mtx = s.m.mtx → k = i → i < 4 → (⟨th,x,pc,hd,hh,e,ok,ef,bl⟩ : IOp).Hd i →
  ∃ i,i < 4 ∧ s.m.held i = (true,th) ∧ (s1.m.unlock th k).1.log = s.m.log ++ [⟨th,6,i,1,0,true⟩] ∧ ∀ j,(s1.m.unlock th k).1.held j = if j = i then (false,0) else s.m.held j:=by
  rintro s1 k i h1 h2 rfl hi hh
  have e : ∀ j,s1.m.held j = s.m.held j:=fun j=>by unfold Mem.held;rw [h2]
  have h3:=hhd k hi hh
  obtain ⟨u1,u2⟩:=unlock_ok (m:=s1.m) (th:=th) (i:=k) (by rw [e];exact h3) (by rw [h2];omega)
  exact ⟨k,hi,h3,by rw [u1,h1],fun j=>by rw [u2];split <;> first | rfl | rw [e]⟩
 have put : (IOp.putS ⟨th,x,pc,hd,hh,e,ok,ef,bl⟩ s).m.log = s.m.log ∧ (IOp.putS ⟨th,x,pc,hd,hh,e,ok,ef,bl⟩ s).m.mtx = s.m.mtx:=by
  unfold IOp.putS
  dsimp only
  split
  · exact ⟨(touches_same th _ s.m).2.2.1,(touches_same th _ s.m).2.1⟩
  · exact ⟨rfl,rfl⟩
 cases shp with
 | start=>
  left
  unfold IOp.step
  dsimp only
  split
  · exact quiet s [] (by simp) (fun y hy=>by cases hy) fun _=>rfl
  · exact ld
 | top=>exact lock 0 .top .conf rfl (by omega) rfl rfl
 | r0=>exact lock 1 .rungs .choose rfl (by omega) rfl rfl
 | r1=>exact lock 1 .rungs .choose rfl (by omega) rfl rfl
 | bottom=>exact lock 2 .bottom .arena rfl (by omega) rfl rfl
 | a0=>exact lock 3 .arena .alloc rfl (by omega) rfl rfl
 | a1=>exact lock 3 .arena .alloc rfl (by omega) rfl rfl
 | a2=>exact lock 3 .arena .alloc rfl (by omega) rfl rfl
 | conf=>exact .inl ld
 | undo=>exact absurd rfl hnu
 | choose=>exact .inl (quiet (s.touch th [1]) [] (by show (s.m.touches th [1]).log = _;rw [(touches_same th [1] s.m).2.2.1];simp) (fun y hy=>by cases hy) fun j=>touches_held th [1] s.m j)
 | l0=>exact .inl (alloc rfl)
 | l1=>exact .inl (alloc rfl)
 | l2=>exact .inl (alloc rfl)
 | v0=>exact .inr (.inr (ul s 3 3 rfl rfl rfl (by omega) (.inr ⟨rfl,.inr rfl⟩)))
 | v1=>exact .inr (.inr (ul s 3 3 rfl rfl rfl (by omega) (.inr ⟨rfl,.inr rfl⟩)))
 | v2=>exact .inr (.inr (ul s 3 3 rfl rfl rfl (by omega) (.inr ⟨rfl,.inr rfl⟩)))
 | p0=>exact .inr (.inr (ul _ _ 0 put.1 put.2 rfl (by omega) (.inl (by simp [hdL]))))
 | p1=>exact .inr (.inr (ul _ _ 1 put.1 put.2 rfl (by omega) (.inl (by simp [hdL]))))
 | p2=>exact .inr (.inr (ul _ _ 2 put.1 put.2 rfl (by omega) (.inl (by simp [hdL]))))
 | rel=>exact .inr (.inr (ul s _ 1 rfl rfl rfl (by omega) (.inl (by simp [hdL]))))
structure LG (L0 : List Acc) (y : PS) : Prop where
 ex : ∃ l,y.s.m.log = L0 ++ l ∧ (∀ (j : Nat) (x : Acc),l[j]? = some x → RelA x → OkA ((l.take j).foldl simH fun _ _=>false) x) ∧ ∀ t i : Nat,t < 4 → i < 4 → l.foldl simH (fun _ _=>false) t i = decide (y.s.m.held i = (true,(t : Int)))
theorem LG.quiet {L0 : List Acc} {y : PS} (h : LG L0 y) {y' : PS} (l' : List Acc) (h1 : y'.s.m.log = y.s.m.log ++ l') (h2 : ∀ x ∈ l',¬ RelA x) (h3 : ∀ j,y'.s.m.held j = y.s.m.held j) : LG L0 y':=by
 obtain ⟨l,a1,a2,a3⟩:=h.ex
 have hf : ∀ (m : List Acc) (H : Nat → Nat → Bool),(∀ x ∈ m,¬ RelA x) → m.foldl simH H = H:=fun m=>by
  induction m with
  | nil=>exact fun H _=>rfl
  | cons x m ih=>
   intro H hx
   rw [List.foldl_cons,show simH H x = H by unfold simH;rw [if_neg (hx x (by simp))]]
   exact ih H fun z hz=>hx z (by simp [hz])
 refine ⟨l ++ l',by rw [h1,a1,List.append_assoc],fun j x hj hx=>?_,fun t i ht hi=>?_⟩
 · rcases Nat.lt_or_ge j l.length with c | c
   · rw [List.getElem?_append_left c] at hj
     rw [List.take_append_of_le_length (by omega)]
     exact a2 j x hj hx
   · rw [List.getElem?_append_right c] at hj
     exact absurd hx (h2 x (List.mem_of_getElem? hj))
 · rw [List.foldl_append,hf l' _ h2,h3]
   exact a3 t i ht hi
theorem LG.snoc {L0 : List Acc} {y : PS} (h : LG L0 y) {y' : PS} {t i : Nat} {k a b : Int} (h1 : y'.s.m.log = y.s.m.log ++ [⟨(t : Int),k,i,a,b,true⟩]) (ht : t < 4) (hi : i < 4) (hk : k = 5 ∨ k = 6)
 (hw : decide (y.s.m.held i = (true,(t : Int))) = decide (k = 6)) (hn : k = 5 → ∀ m,i ≤ m → m < 4 → ¬ y.s.m.held m = (true,(t : Int)))
 (h3 : ∀ t' j : Nat,t' < 4 → j < 4 → (y'.s.m.held j = (true,(t' : Int)) ↔ if t' = t ∧ j = i then k = 5 else y.s.m.held j = (true,(t' : Int)))) : LG L0 y':=by
 obtain ⟨l,a1,a2,a3⟩:=h.ex
 have hr : RelA ⟨(t : Int),k,i,a,b,true⟩:=⟨by dsimp only;omega,by dsimp only;omega,by dsimp only;omega,by dsimp only;omega,rfl⟩
 refine ⟨l ++ [⟨(t : Int),k,i,a,b,true⟩],by rw [h1,a1,List.append_assoc],fun j x hj hx=>?_,fun t' j ht' hj=>?_⟩
 · rcases snoc_get hj with ⟨q1,q2⟩ | ⟨q1,q2⟩
   · rw [take_snoc (by omega)]
     exact a2 j x q1 hx
   · subst q2
     rw [q1,take_snoc (Nat.le_refl _),List.take_length]
     refine ⟨by dsimp only;omega,?_,fun hk5 m hm hm4=>?_⟩
     · dsimp only
       rw [Int.toNat_natCast,Int.toNat_natCast,a3 t i ht hi];exact hw
     · dsimp only at hk5 hm ⊢
       rw [Int.toNat_natCast] at hm ⊢
       rw [a3 t m ht hm4]
       exact decide_eq_false (hn hk5 m hm hm4)
 · rw [List.foldl_append,List.foldl_cons,List.foldl_nil]
   rw [simH_rel hr]
   dsimp only
   rw [Int.toNat_natCast,Int.toNat_natCast]
   by_cases c : t' = t ∧ j = i
   · rw [if_pos c]
     have:=h3 t' j ht' hj
     rw [if_pos c] at this
     exact decide_eq_decide.2 this.symm
   · rw [if_neg c,a3 t' j ht' hj]
     have:=h3 t' j ht' hj
     rw [if_neg c] at this
     exact decide_eq_decide.2 this.symm
theorem LG.go {n len : Nat} {T v n0 : Int} {f0 : Nat} {y : PS} {L0 : List Acc} (h : LG L0 y) (hp : PI n len T v n0 f0 y) {t : Nat} (htm : t < 4) {o : IOp} (ht : y.cs t = some o) : LG L0 (y.go t o):=by
 obtain ⟨S,A,hci⟩:=hp.ci
 obtain ⟨hok,hth⟩:=hci.ops t o htm ht
 have hreg:=hp.li.reg t o htm ht
 have hnu : o.pc ≠ .undo:=fun e=>by unfold Reg at hreg;rw [e] at hreg;exact hreg
 have mine : ∀ m,m < 4 → y.s.m.held m = (true,(t : Int)) → o.Hd m:=fun m hm hh=>by
  obtain ⟨j,hj,hd⟩:=hp.li.h2 m hm (by rw [hh])
  have h1:=hp.li.h1 m j hm hj hd
  rw [hh] at h1
  have e : (t : Int) = j:=congrArg Prod.snd h1
  have e : j = t:=by omega
  subst e
  obtain ⟨q,hq,hd⟩:=hd
  rw [ht] at hq;cases hq;exact hd
 have pr : ∀ {a b : Int},((true,a) = ((true,b) : Bool × Int)) ↔ a = b:=fun {a b}=>by simp
 rcases step_log hci.sb hok hnu (fun i hi hh=>by rw [hth];exact hp.li.h1 i t hi htm ⟨o,ht,hh⟩) with ⟨l,a1,a2,a3⟩ | ⟨i,q,a0,hi,af,a1,a2⟩ | ⟨i,hi,a0,a1,a2⟩
 · exact h.quiet l a1 a2 a3
 · rw [hth] at a1 a2
   have hno : ∀ m,i ≤ m → m < 4 → ¬ y.s.m.held m = (true,(t : Int)):=fun m hm hm4 hh=>by
    have:=hd_mx hok.shp (mine m hm4 hh) a0
    omega
   refine h.snoc a1 htm hi (.inl rfl) (by rw [decide_eq_false (hno i (Nat.le_refl _) hi)];rfl) (fun _=>hno) fun t' j ht' hj=>?_
   show (o.step y.s).2.m.held j = _ ↔ _
   rw [a2]
   by_cases c : j = i
   · subst c
     rw [if_pos rfl]
     by_cases c2 : t' = t
     · subst c2;rw [if_pos ⟨rfl,rfl⟩];simp
     · rw [if_neg fun z=>c2 z.1]
       constructor
       · intro z;have:=pr.1 z;omega
       · intro z
         rw [z] at af;cases af
   · rw [if_neg c,if_neg fun z=>c z.2]
 · rw [hth] at a0 a1
   refine h.snoc a1 htm hi (.inr rfl) (by rw [decide_eq_true a0];rfl) (fun z=>by cases z) fun t' j ht' hj=>?_
   show (o.step y.s).2.m.held j = _ ↔ _
   rw [a2]
   by_cases c : j = i
   · subst c
     rw [if_pos rfl]
     by_cases c2 : t' = t
     · subst c2;rw [if_pos ⟨rfl,rfl⟩];simp
     · rw [if_neg fun z=>c2 z.1,a0]
       constructor
       · intro z;cases z
       · intro z;have:=pr.1 z;omega
   · rw [if_neg c,if_neg fun z=>c z.2]
theorem LG.rnd {n : Nat} {times : List Int} {T v n0 : Int} {f0 : Nat} {y : PS} {L0 : List Acc} (h : LG L0 y) (hp : PI n times.length T v n0 f0 y) {t : Nat} (htm : t < 4) : LG L0 (y.rnd times t):=by
 cases ht : y.cs t with
 | some o=>
  have : y.rnd times t = y.go t o:=by unfold PS.rnd;rw [ht]
  rw [this]
  exact h.go hp htm ht
 | none=>
  by_cases hx : y.nx < times.length
  · rw [PS.rnd_new y times ht hx]
    exact LG.go (y:={ y.new t with cs:=upd y.cs t (some (.new t (timeI (times.getD y.nx 0)))) }) ⟨h.ex⟩ (hp.mk' htm ht hx _) htm (upd_same ..)
  · have : y.rnd times t = { y with i:=y.i + 1 }:=by unfold PS.rnd;rw [ht];dsimp only;rw [if_neg hx]
    rw [this]
    exact ⟨h.ex⟩
theorem LG.run {n : Nat} {s0 : Sto} {S : List Item} (hr : Ready n s0 S) {times : List Int} {tp : Nat → Nat} (htp : ∀ i,tp i < 4) : ∀ i,i ≤ 10000 → LG s0.m.log (PS.run times tp (ps0 times s0) i):=fun i=>by
 induction i with
 | zero=>
  refine fun _=>⟨[],by show s0.m.log = s0.m.log ++ [];simp,fun j x hj=>by simp at hj,fun t i ht hi=>?_⟩
  show false = decide (s0.m.held i = _)
  rw [hr.free i hi];simp
 | succ i ih=>exact fun hi=>(ih (by omega)).rnd ((PI.zero hr times).run htp rfl i (by omega)) (htp i)
open Go.Proofs
set_option maxRecDepth 10000
def arr16 (H : Nat → Nat → Bool) : List V:=[V.bool (H 0 0),V.bool (H 0 1),V.bool (H 0 2),V.bool (H 0 3),V.bool (H 1 0),V.bool (H 1 1),V.bool (H 1 2),V.bool (H 1 3),V.bool (H 2 0),V.bool (H 2 1),V.bool (H 2 2),V.bool (H 2 3),V.bool (H 3 0),V.bool (H 3 1),V.bool (H 3 2),V.bool (H 3 3)]
theorem arr16_get {H : Nat → Nat → Bool} {t i k : Nat} (ht : t < 4) (hi : i < 4) (hk : k = 4 * t + i) : (arr16 H)[k]? = some (V.bool (H t i)):=by
 subst hk
 rcases (show t = 0 ∨ t = 1 ∨ t = 2 ∨ t = 3 by omega) with rfl | rfl | rfl | rfl <;> rcases (show i = 0 ∨ i = 1 ∨ i = 2 ∨ i = 3 by omega) with rfl | rfl | rfl | rfl <;> rfl
theorem arr16_set {H : Nat → Nat → Bool} {t i k : Nat} (ht : t < 4) (hi : i < 4) (hk : k = 4 * t + i) (b : Bool) : spliceV (arr16 H) k [V.bool b] = arr16 fun t' i'=>if t' = t ∧ i' = i then b else H t' i':=by
 subst hk
 rcases (show t = 0 ∨ t = 1 ∨ t = 2 ∨ t = 3 by omega) with rfl | rfl | rfl | rfl <;> rcases (show i = 0 ∨ i = 1 ∨ i = 2 ∨ i = 3 by omega) with rfl | rfl | rfl | rfl <;> rfl
theorem arr16_room {H : Nat → Nat → Bool} {t i a b : Nat} {x : V} (ht : t < 4) (hi : i < 4) (hab : a = 4 ∧ b = 1) : (0 + t * a + i * b + [x].length).ble (arr16 H).length = true:=by
 obtain ⟨rfl,rfl⟩:=hab
 rw [Nat.ble_eq];show 0 + t * 4 + i * 1 + 1 ≤ 16;omega
theorem arr16_below (H : Nat → Nat → Bool) (b : Nat) : (B.rows 16 [arr16 H]).Below (Lt b):=belowB_names fun n hn=>by simp [arr16,namesB,namesOf,nameOf,V.bool] at hn
set_option maxHeartbeats 8000000 in
theorem locksG (c : Int) (l : List OpS) (times picks : List Int) {n : Nat} (hn : 1 ≤ n ∧ n ≤ 12) (s0 s1 : Sto) (S S1 : List Item) (el : List (Int × Int)) (la : List Acc) (hsz : PSpec Tryz.prog 15 [.c (.int .u8 c)] (V.int n)) (hhd : PSpec Tryz.prog 42 [] (V.bool true))
 (hp : LSpec Tryz.prog 14 [V.int n,opsSV l] [] 0 (.tup [.p 0 10 0 0,.p 5 10 0 0]) (stoB s0 2 ++ rstoAt s0 5 7) 10) (hr : Ready n s0 S)
 (hpl : picks.length ≤ 200 → times.length ≤ 20 → Played n s0 S times s1 S1 el ∧ (s1.m.log = s0.m.log ++ la ∧ ∀ (j : Nat) (x : Acc),la[j]? = some x → RelA x → OkA ((la.take j).foldl simH fun _ _=>false) x) ∧ LSpec Tryz.prog 43 [.p 0 10 0 0,intsV times,u8sV picks] (stoB s0 2) 5 (.tup [.lst 4 (el.map resR) false,V.bool true]) (stoB s1 5) 6) :
 PSpec Tryz.prog 8 [.c (.int .u8 c),opsSV l,intsV times,u8sV picks] (V.bool true):=by
 have hml : (picks.map u8D).length = picks.length:=List.length_map ..
 have hmh : (times.map intD).length = times.length:=List.length_map ..
 refine pspec tab_ok mix Tryz.func8 (by kernel_rfl) rfl rfl ?_
 (refine go ?_; try exact True.intro)
 refine callB hhd (go ?_)
 refine callB hsz (go ?_)
 refine callL hp [] [] rfl (go ?_)
 rw [hmh]
 by_cases hg1 : (20 : Int) < times.length
 · rw [decide_eq_true hg1]
   (refine go ?_; try exact True.intro)
   exact .same rfl
 rw [decide_eq_false hg1]
 (refine go ?_; try exact True.intro)
 rw [hml]
 by_cases hg2 : (200 : Int) < picks.length
 · rw [decide_eq_true hg2]
   (refine go ?_; try exact True.intro)
   exact .same rfl
 rw [decide_eq_false hg2]
 obtain ⟨hP,⟨hlog,hok⟩,hC⟩:=hpl (by omega) (by omega)
 have hm0:=hr.ok.fits.mem
 have hm1:=hP.sb.fits.mem
 have hl1:=hm1.log
 have hll : s1.m.log.length = s0.m.log.length + la.length:=by rw [hlog,List.length_append]
 (refine go ?_; try exact True.intro)
 refine callL (memoryC s0) [some 384,some 385,some 386,some 387,some 388] [] rfl (go ?_)
 refine callL (logC s0.m hm0) [some 385,some 386,some 387,some 388] [] rfl (go ?_)
 refine callL hC [some 384,some 385,some 386,some 387,some 388] [] rfl (go ?_)
 refine callL (memoryC s1) [some 384,some 385,some 2048,some 387,some 388] [] rfl (go ?_)
 refine callL (logC s1.m hm1) [some 385,some 2048,some 387,some 388] [] rfl (go ?_)
 rw [decide_eq_false (show ¬ (s1.m.log.length : Int) < s0.m.log.length by omega)]
 (refine go ?_; try exact True.intro)
 refine loopO tab_ok mix [3200] [9,10,15,16] [384,385,2048,387,388,2560] (fun i : Nat=>[(17,V.int ((s0.m.log.length + i : Nat) : Int))]) (fun i=>[(3200,.rows 16 [arr16 ((la.take i).foldl simH fun _ _=>false)])]) (fun i=>i ≤ la.length) (fun i=>la.length - i) [] 0 rfl (by omega) ?_ ?_
 · (refine go ?_; try exact True.intro)
   refine BO.mk _ rfl (by rfl) (arr16_below _ _) (go ?_);try exact True.intro
 intro i hi
 (refine go ?_; try exact True.intro)
 by_cases hz : i < la.length
 case neg=>
  obtain rfl : i = la.length:=by omega
  rw [decide_eq_false (show ¬ ((s0.m.log.length + la.length : Nat) : Int) < s1.m.log.length by omega)]
  (refine go ?_; try exact True.intro)
  refine loopB tab_ok mix [9,10] [384,385,2048,387,388] (fun m : Nat=>[(20,V.int m)]) (fun m=>[]) (fun m=>m ≤ 4) (fun m=>4 - m) [] 0 rfl (by omega) ?_ ?_
  · (refine go ?_; try exact True.intro)
  intro m hm
  (refine go ?_; try exact True.intro)
  by_cases hm4 : m < 4
  · rw [decide_eq_true (show (m : Int) < 4 by omega)]
    (refine go ?_; try exact True.intro)
    refine callL (memoryC s1) [some 384,some 385,some 2048,some 387,some 388] [] rfl (go ?_)
    refine callL (holderC s1.m m (by rw [hP.sb.nm];exact hm4) hm1) [some 385,some 2048,some 387,some 388] [] rfl ?_
    rw [if_neg (hP.free m hm4)]
    (refine go ?_; try exact True.intro)
    refine .mk [] (m + 1) (by omega) (by omega) (go ?_);try exact True.intro
  rw [decide_eq_false (show ¬ (m : Int) < 4 by omega)]
  (refine go ?_; try exact True.intro)
  exact .same rfl
 rw [decide_eq_true (show ((s0.m.log.length + i : Nat) : Int) < s1.m.log.length by omega)]
 obtain ⟨x,hx⟩ : ∃ x,la[i]? = some x:=⟨_,List.getElem?_eq_getElem hz⟩
 have hx1 : s1.m.log[s0.m.log.length + i]? = some x:=by rw [hlog,List.getElem?_append_right (by omega),Nat.add_sub_cancel_left];exact hx
 have hok:=hok i x hx
 have htk:=take_one hx
 (refine go ?_; try exact True.intro)
 refine atB (show s0.m.log.length + i < s1.m.log.length by omega) (go ?_)
 refine getB hx1 (go ?_)
 obtain ⟨xt,xk,xi,xo,xn,xok⟩:=x
 dsimp only at hok htk ⊢
 have hirr : ¬ RelA ⟨xt,xk,xi,xo,xn,xok⟩ → (la.take (i + 1)).foldl simH (fun _ _=>false) = (la.take i).foldl simH (fun _ _=>false):=fun z=>by
  rw [htk,List.foldl_append];exact simH_irr z
 by_cases a1 : xt < 0
 · rw [decide_eq_true a1]
   (refine go ?_; try exact True.intro)
   refine .mk [] (i + 1) (by omega) (by omega) (go ?_)
   refine BO.mk _ rfl (by rw [hirr (fun z=>by have:=z.1;dsimp only at this;omega)];rfl) (arr16_below _ _) (go ?_);try exact True.intro
   repeat (refine cb (by push_cast;omega) ?_;(refine go ?_; try exact True.intro))
 rw [decide_eq_false a1]
 (refine go ?_; try exact True.intro)
 by_cases a2 : 3 < xt
 · rw [decide_eq_true a2]
   (refine go ?_; try exact True.intro)
   refine .mk [] (i + 1) (by omega) (by omega) (go ?_)
   refine BO.mk _ rfl (by rw [hirr (fun z=>by have:=z.2.1;dsimp only at this;omega)];rfl) (arr16_below _ _) (go ?_);try exact True.intro
   repeat (refine cb (by push_cast;omega) ?_;(refine go ?_; try exact True.intro))
 rw [decide_eq_false a2]
 (refine go ?_; try exact True.intro)
 by_cases a3 : xi < 0
 · rw [decide_eq_true a3]
   (refine go ?_; try exact True.intro)
   refine .mk [] (i + 1) (by omega) (by omega) (go ?_)
   refine BO.mk _ rfl (by rw [hirr (fun z=>by have:=z.2.2.1;dsimp only at this;omega)];rfl) (arr16_below _ _) (go ?_);try exact True.intro
   repeat (refine cb (by push_cast;omega) ?_;(refine go ?_; try exact True.intro))
 rw [decide_eq_false a3]
 (refine go ?_; try exact True.intro)
 by_cases a4 : xk < 5
 · rw [decide_eq_true a4]
   (refine go ?_; try exact True.intro)
   refine .mk [] (i + 1) (by omega) (by omega) (go ?_)
   refine BO.mk _ rfl (by rw [hirr (fun z=>by have:=z.2.2.2.1;dsimp only at this;omega)];rfl) (arr16_below _ _) (go ?_);try exact True.intro
   repeat (refine cb (by push_cast;omega) ?_;(refine go ?_; try exact True.intro))
 rw [decide_eq_false a4]
 (refine go ?_; try exact True.intro)
 rcases Bool.eq_false_or_eq_true xok with a5 | a5
 case inr=>
  rw [a5]
  (refine go ?_; try exact True.intro)
  refine .mk [] (i + 1) (by omega) (by omega) (go ?_)
  refine BO.mk _ rfl (by rw [hirr (fun z=>by have:=z.2.2.2.2;dsimp only at this;rw [a5] at this;cases this)];rfl) (arr16_below _ _) (go ?_);try exact True.intro
  repeat (refine cb (by push_cast;omega) ?_;(refine go ?_; try exact True.intro))
 subst a5
 (refine go ?_; try exact True.intro)
 obtain ⟨t,rfl⟩ : ∃ t : Nat,xt = t:=⟨xt.toNat,by omega⟩
 obtain ⟨k,rfl⟩ : ∃ k : Nat,xi = k:=⟨xi.toNat,by omega⟩
 have hR : RelA ⟨(t : Int),xk,k,xo,xn,true⟩:=⟨by dsimp only;omega,by dsimp only;omega,by dsimp only;omega,by dsimp only;omega,rfl⟩
 obtain ⟨o1,o2,o3⟩:=hok hR
 dsimp only at o1 o2 o3
 rw [Int.toNat_natCast,Int.toNat_natCast] at o2
 rw [Int.toNat_natCast,Int.toNat_natCast] at o3
 have ht4 : t < 4:=by omega
 have hk4 : k < 4:=by omega
 rw [decide_eq_false (show ¬ (3 : Int) < k by omega)]
 (refine go ?_; try exact True.intro)
 refine atB ht4 (go ?_)
 refine atB hk4 (go ?_)
 refine optK_eq (arr16_get ht4 hk4 (by show 0 + t * 4 + k * 1 = _;omega)) (go ?_)
 have hrel : (la.take (i + 1)).foldl simH (fun _ _=>false) = fun t' i'=>if t' = t ∧ i' = k then decide (xk = 5) else (la.take i).foldl simH (fun _ _=>false) t' i':=by
  rw [htk,List.foldl_append]
  show simH _ _ = _
  rw [simH_rel hR]
  dsimp only
  rw [Int.toNat_natCast,Int.toNat_natCast]
 rw [o2,show (!(decide (xk = 6) == decide (xk = 6))) = false by simp]
 (refine go ?_; try exact True.intro)
 refine loopO tab_ok mix [3200] [9,10,15,16,17,18] [384,385,2048,387,388,2560,3200,3904] (fun m : Nat=>[(19,V.int m)]) (fun m=>[]) (fun m=>k ≤ m ∧ m ≤ 4) (fun m=>4 - m) [] k rfl (by omega) ?_ ?_
 · (refine go ?_; try exact True.intro)
   refine BO.mk _ rfl (by rfl) (arr16_below _ _) (go ?_);try exact True.intro
 intro m hm
 (refine go ?_; try exact True.intro)
 by_cases hm4 : m < 4
 · rw [decide_eq_true (show (m : Int) < 4 by omega)]
   (refine go ?_; try exact True.intro)
   by_cases h5 : xk = 5
   · rw [decide_eq_true h5]
     (refine go ?_; try exact True.intro)
     refine atB ht4 (go ?_)
     refine atB hm4 (go ?_)
     refine optK_eq (arr16_get ht4 hm4 (by show 0 + t * 4 + m * 1 = _;omega)) ?_
     rw [o3 h5 m hm.1 hm4]
     (refine go ?_; try exact True.intro)
     refine .mk [] (m + 1) (by omega) (by omega) (go ?_)
     refine BO.mk _ rfl (by rfl) (arr16_below _ _) (go ?_);try exact True.intro
   rw [decide_eq_false h5]
   (refine go ?_; try exact True.intro)
   refine atB ht4 (go ?_)
   refine atB hk4 (go ?_)
   refine okK_eq (arr16_room ht4 hk4 ⟨rfl,rfl⟩) (go ?_)
   refine listK_eq (arr16_set ht4 hk4 (by show 0 + t * 4 + k * 1 = _;omega) _) (go ?_)
   refine .mk [] (i + 1) (by omega) (by omega) (go ?_)
   refine BO.mk _ rfl (by rw [hrel];rfl) (arr16_below _ _) (go ?_);try exact True.intro
   repeat (refine cb (by push_cast;omega) ?_;(refine go ?_; try exact True.intro))
 rw [decide_eq_false (show ¬ (m : Int) < 4 by omega)]
 (refine go ?_; try exact True.intro)
 refine atB ht4 (go ?_)
 refine atB hk4 (go ?_)
 refine okK_eq (arr16_room ht4 hk4 ⟨rfl,rfl⟩) (go ?_)
 refine listK_eq (arr16_set ht4 hk4 (by show 0 + t * 4 + k * 1 = _;omega) _) (go ?_)
 refine .mk [] (i + 1) (by omega) (by omega) (go ?_)
 refine BO.mk _ rfl (by rw [hrel];rfl) (arr16_below _ _) (go ?_);try exact True.intro
 repeat (refine cb (by push_cast;omega) ?_;(refine go ?_; try exact True.intro))
theorem insertopLocks (c : Int) (hc : 0 ≤ c ∧ c ≤ 255) (l : List OpS) (hl : ∀ o ∈ l,o.Ok) (times picks : List Int) (hpk : ∀ y ∈ picks,0 ≤ y ∧ y ≤ 255) :
 PSpec Tryz.prog 8 [.c (.int .u8 c),opsSV l,intsV times,u8sV picks] (V.bool true):=by
 obtain ⟨_,hn⟩:=capN_ok hc.1
 have hr:=prep_ready hn hl
 by_cases hb : picks.length ≤ 200 ∧ times.length ≤ 20
 · obtain ⟨s1,S1,el,e1,_,h1,h2⟩:=playG hr times picks hpk hb.1 hb.2
   obtain ⟨la,q1,q2,_⟩:=(LG.run hr (tpI_lt picks hpk) (rndsN times picks) (by unfold rndsN;omega)).ex
   rw [← e1] at q1
   exact locksG c l times picks hn _ s1 _ S1 el la (sizeC c hc) head12C (preparedC hn l hl) hr fun _ _=>⟨h1,⟨q1,q2⟩,h2⟩
 · exact locksG c l times picks hn _ (prepS (capN c) l) _ [] [] [] (sizeC c hc) head12C (preparedC hn l hl) hr fun a b=>absurd ⟨a,b⟩ hb
theorem specInsertopLocks (rows : List (List D)) (h : AllR (ShapeD tab 5) [5,22,36,23] rows) : PSpec Tryz.prog 8 (List.zipWith (argV tab) [5,22,36,23] rows) (V.bool true):=
 args12 insertopLocks rows h
end Go.Proofs.YtcffiehcdadimaaGreat.Abs
