/- Insertions of many threads: who holds which mutex, and in which region. -/
import Derived.Test.YtcffiehcdadimaaGreatME
import Derived.Test.YtcffiehcdadimaaGreatMF
import Derived.Test.YtcffiehcdadimaaGreatHB
namespace Go.Proofs.YtcffiehcdadimaaGreat.Abs
set_option linter.unusedSimpArgs false
set_option linter.unusedVariables false
def IOp.Hd (o : IOp) (i : Nat) : Prop:=((i : Int) ∈ hdL o.hd) ∨ (i = 3 ∧ (o.pc = .alloc ∨ o.pc = .leave))
def HdO (o : Option IOp) (i : Nat) : Prop:=∃ p,o = some p ∧ p.Hd i
def Reg (T : Int) (q : Lad) (o : IOp) : Prop:=
 match o.pc with
 | .top | .conf=>T ≤ o.t
 | .undo=>False
 | .rungs=>o.hd = none ∧ o.t < T
 | .choose | .bottom=>o.t < T
 | .arena | .alloc | .leave | .put=>(o.hd = some ([0],1) → T ≤ o.t) ∧ (o.hd = some ([1],1) → o.t < T ∧ accQ q o.t = true) ∧ (o.hd = some ([1,2],2) → o.t < T)
 | _=>True
structure LI (m : Nat) (s : Sto) (cs : Nat → Option IOp) (T v : Int) : Prop where
 ts : s.q.topStart = T
 h1 : ∀ i j,i < 4 → j < m → HdO (cs j) i → s.m.held i = (true,(j : Int))
 h2 : ∀ i,i < 4 → (s.m.held i).1 = true → ∃ j,j < m ∧ HdO (cs j) i
 reg : ∀ j o,j < m → cs j = some o → Reg T s.q o
 slot : ∀ j o i,j < m → cs j = some o → o.hnd i → (s.slot i).time = o.t
 viol : s.m.viol = v
theorem LI.next {m : Nat} {s s' : Sto} {cs : Nat → Option IOp} {T v : Int} (h : LI m s cs T v) {t : Nat} {o : IOp} {p : Option IOp} (htm : t < m) (ht : cs t = some o)
 (hH : ∀ i,i < 4 → (HdO p i ∧ s'.m.held i = (true,(t : Int)) ∧ (¬ o.Hd i → (s.m.held i).1 = false)) ∨ (¬ HdO p i ∧ ¬ o.Hd i ∧ s'.m.held i = s.m.held i) ∨ (¬ HdO p i ∧ o.Hd i ∧ (s'.m.held i).1 = false))
 (hts : s'.q.topStart = T) (hreg : ∀ j x,j < m → j ≠ t → cs j = some x → Reg T s'.q x) (hrp : ∀ x,p = some x → Reg T s'.q x)
 (hsl : ∀ j x i,j < m → j ≠ t → cs j = some x → x.hnd i → (s'.slot i).time = x.t) (hsp : ∀ x i,p = some x → x.hnd i → (s'.slot i).time = x.t) (hv : s'.m.viol = v) : LI m s' (upd cs t p) T v:=by
 have own : ∀ {i j},i < 4 → j < m → o.Hd i → s.m.held i = (true,(t : Int)):=fun {i j} hi hj ho=>h.h1 i t hi htm ⟨o,ht,ho⟩
 refine ⟨hts,fun i j hi hj hd=>?_,fun i hi hd=>?_,fun j x hj hx=>?_,fun j x i hj hx hh=>?_,hv⟩
 · by_cases e : j = t
   · subst e
     rw [upd_same] at hd
     rcases hH i hi with ⟨_,h2,_⟩ | ⟨h1,_⟩ | ⟨h1,_⟩
     · exact h2
     · exact absurd hd h1
     · exact absurd hd h1
   · rw [upd_ne _ _ _ _ e] at hd
     have h0:=h.h1 i j hi hj hd
     rcases hH i hi with ⟨_,h2,h3⟩ | ⟨_,_,h2⟩ | ⟨_,h2,_⟩
     · exfalso
       by_cases c : o.Hd i
       · have:=own hi hj c
         rw [h0] at this
         have:=congrArg Prod.snd this
         simp only at this
         omega
       · have:=h3 c
         rw [h0] at this;cases this
     · rw [h2];exact h0
     · exfalso
       have:=own hi hj h2
       rw [h0] at this
       have:=congrArg Prod.snd this
       simp only at this
       omega
 · rcases hH i hi with ⟨h1,_⟩ | ⟨_,h1,h2⟩ | ⟨_,_,h2⟩
   · exact ⟨t,htm,by rw [upd_same];exact h1⟩
   · rw [h2] at hd
     obtain ⟨j,hj,hh⟩:=h.h2 i hi hd
     have e : j ≠ t:=fun e=>by
      subst e
      obtain ⟨x,hx,hh⟩:=hh
      rw [ht] at hx;cases hx
      exact h1 hh
     exact ⟨j,hj,by rw [upd_ne _ _ _ _ e];exact hh⟩
   · rw [h2] at hd;cases hd
 · by_cases e : j = t
   · subst e;rw [upd_same] at hx;exact hrp x hx
   · rw [upd_ne _ _ _ _ e] at hx;exact hreg j x hj e hx
 · by_cases e : j = t
   · subst e;rw [upd_same] at hx;exact hsp x i hx hh
   · rw [upd_ne _ _ _ _ e] at hx;exact hsl j x i hj e hx hh
theorem Mem.held_lock {m : Mem} {th : Int} {i : Nat} (hl : (m.lock th i).2 = true) (hi : i < m.mtx.length) (j : Nat) : (m.lock th i).1.held j = (if j = i then (true,th) else m.held j) ∧ (m.held i).1 = false:=by
 unfold Mem.lock at hl ⊢
 split at hl
 · cases hl
 · next h=>
   rw [if_neg h]
   refine ⟨?_,by simpa using h⟩
   unfold Mem.held
   dsimp only
   rw [List.getElem?_set]
   by_cases e : i = j
   · subst e;rw [if_pos rfl,if_pos hi,if_pos rfl];rfl
   · rw [if_neg e,if_neg (fun x=>e x.symm)]
theorem Mem.held_nolock {m : Mem} {th : Int} {i : Nat} (hl : (m.lock th i).2 = false) (j : Nat) : (m.lock th i).1.held j = m.held j ∧ (m.held i).1 = true:=by
 unfold Mem.lock at hl ⊢
 split at hl
 · next h=>rw [if_pos h];exact ⟨rfl,h⟩
 · cases hl
theorem Mem.held_unlock {m : Mem} {th : Int} {i : Nat} (h : m.held i = (true,th)) (hi : i < m.mtx.length) (j : Nat) : (m.unlock th i).1.held j = (if j = i then (false,0) else m.held j) ∧ (m.unlock th i).1.viol = m.viol:=by
 unfold Mem.unlock
 rw [if_pos h]
 refine ⟨?_,rfl⟩
 unfold Mem.held
 dsimp only
 rw [List.getElem?_set]
 by_cases e : i = j
 · subst e;rw [if_pos rfl,if_pos hi,if_pos rfl];rfl
 · rw [if_neg e,if_neg (fun x=>e x.symm)]
theorem insLad_top (q : Lad) (it : Item) : (insLad q it).topStart = q.topStart:=by
 unfold insLad
 split
 · rfl
 · split <;> rfl
theorem accQ_top {q : Lad} {it : Item} (h : q.topStart ≤ it.time) (t : Int) : accQ (insLad q it) t = accQ q t:=by
 unfold insLad
 rw [if_pos h];rfl
theorem Reg.same {T : Int} {q q' : Lad} {o : IOp} (h : Reg T q o) (hq : ∀ t,accQ q' t = accQ q t) : Reg T q' o:=by
 unfold Reg at h ⊢
 cases hpc : o.pc <;> rw [hpc] at h <;> simp only at h ⊢ <;> first | exact h | (rw [hq];exact h)
theorem Reg.out {T : Int} {q q' : Lad} {o : IOp} (h : Reg T q o) (ho : ¬ o.Hd 1) : Reg T q' o:=by
 unfold Reg at h ⊢
 have hn : o.hd ≠ some ([1],1):=fun e=>ho (.inl (by rw [e];simp [hdL]))
 cases hpc : o.pc <;> rw [hpc] at h <;> simp only at h ⊢ <;> first | exact h | exact ⟨h.1,fun e=>absurd e hn,h.2.2⟩
theorem hd_none {i : Nat} {o : IOp} (h : o.hd = none) (hp : o.pc ≠ .alloc) (hp2 : o.pc ≠ .leave) : ¬ o.Hd i:=by
 rintro (x | ⟨_,x | x⟩)
 · rw [h] at x;simp [hdL] at x
 · exact hp x
 · exact hp2 x
theorem left_some {o p : IOp} (h : o.left = some p) : p = o ∧ o.pc ≠ .ret:=by
 unfold IOp.left at h
 split at h
 · cases h
 · next hne=>cases h;exact ⟨rfl,hne⟩
theorem hdO_left {o : IOp} {i : Nat} : HdO o.left i ↔ o.pc ≠ .ret ∧ o.Hd i:=by
 constructor
 · rintro ⟨p,hp,hh⟩
   obtain ⟨rfl,h2⟩:=left_some hp
   exact ⟨h2,hh⟩
 · rintro ⟨h1,h2⟩
   refine ⟨o,?_,h2⟩
   unfold IOp.left
   split
   · next e=>exact absurd e h1
   · rfl
theorem LI.move {m : Nat} {s s' : Sto} {cs : Nat → Option IOp} {T v : Int} (h : LI m s cs T v) {t : Nat} {o p : IOp} (htm : t < m) (ht : cs t = some o) (hm : ∀ i,s'.m.held i = s.m.held i) (hq : s'.q = s.q) (hs : ∀ i,s'.slot i = s.slot i) (hv : s'.m.viol = s.m.viol)
 (hH : ∀ i,i < 4 → (p.Hd i ↔ o.Hd i)) (hr : p.pc ≠ .ret) (hreg : Reg T s.q p) (hsl : ∀ i,p.hnd i → (s.slot i).time = p.t) : LI m s' (upd cs t p.left) T v:=by
 refine h.next htm ht (fun i hi=>?_) (by rw [hq];exact h.ts) (fun j x hj _ hx=>by rw [hq];exact h.reg j x hj hx) (fun x hx=>?_) (fun j x i hj _ hx hh=>by rw [hs];exact h.slot j x i hj hx hh) (fun x i hx hh=>?_) (by rw [hv];exact h.viol)
 · by_cases c : o.Hd i
   · left
     exact ⟨hdO_left.2 ⟨hr,(hH i hi).2 c⟩,by rw [hm];exact h.h1 i t hi htm ⟨o,ht,c⟩,fun x=>absurd c x⟩
   · right;left
     exact ⟨fun x=>c ((hH i hi).1 (hdO_left.1 x).2),c,hm i⟩
 · obtain ⟨rfl,_⟩:=left_some hx
   rw [hq];exact hreg
 · obtain ⟨rfl,_⟩:=left_some hx
   rw [hs];exact hsl i hh
theorem LI.take {m : Nat} {s : Sto} {cs : Nat → Option IOp} {T v : Int} (h : LI m s cs T v) {t : Nat} {o p : IOp} (htm : t < m) (ht : cs t = some o) {i : Nat} (hi : i < 4) (hm4 : s.m.mtx.length = 4) (hl : (s.m.lock t i).2 = true)
 (hH : ∀ j,j < 4 → (p.Hd j ↔ o.Hd j ∨ j = i)) (hr : p.pc ≠ .ret) (hreg : Reg T s.q p) (hsl : ∀ i,¬ p.hnd i) : LI m { s with m:=(s.m.lock t i).1 } (upd cs t p.left) T v:=by
 refine h.next htm ht (fun j hj=>?_) h.ts (fun j x hj _ hx=>h.reg j x hj hx) (fun x hx=>?_) (fun j x i hj _ hx hh=>h.slot j x i hj hx hh) (fun x i hx hh=>?_) ?_
 · obtain ⟨e1,e2⟩:=Mem.held_lock hl (by omega) j
   dsimp only
   rw [e1]
   by_cases c : j = i
   · subst c
     rw [if_pos rfl]
     exact .inl ⟨hdO_left.2 ⟨hr,(hH _ hj).2 (.inr rfl)⟩,rfl,fun _=>e2⟩
   · rw [if_neg c]
     by_cases d : o.Hd j
     · exact .inl ⟨hdO_left.2 ⟨hr,(hH _ hj).2 (.inl d)⟩,h.h1 j t hj htm ⟨o,ht,d⟩,fun x=>absurd d x⟩
     · exact .inr (.inl ⟨fun x=>((hH j hj).1 (hdO_left.1 x).2).elim d c,d,rfl⟩)
 · obtain ⟨rfl,_⟩:=left_some hx
   exact hreg
 · obtain ⟨rfl,_⟩:=left_some hx
   exact absurd hh (hsl i)
 · show (s.m.lock t i).1.viol = v
   rw [(s.m.lock_same t i).2.2.2];exact h.viol
theorem LI.free {m : Nat} {s s1 : Sto} {cs : Nat → Option IOp} {T v : Int} (h : LI m s cs T v) {t : Nat} {o p : IOp} (htm : t < m) (ht : cs t = some o) {i : Nat} (hi : i < 4) (hm4 : s.m.mtx.length = 4) (hmt : s1.m.mtx = s.m.mtx) (hv : s1.m.viol = s.m.viol) (ho : o.Hd i)
 (hH : ∀ j,j < 4 → (HdO p.left j ↔ o.Hd j ∧ j ≠ i)) (hts : s1.q.topStart = T) (hreg : ∀ j x,j < m → j ≠ t → cs j = some x → Reg T s1.q x) (hrp : p.pc ≠ .ret → Reg T s1.q p) (hsl : ∀ j,s1.slot j = s.slot j) (hsp : ∀ i,p.pc ≠ .ret → p.hnd i → (s.slot i).time = p.t) :
 LI m { s1 with m:=(s1.m.unlock t i).1 } (upd cs t p.left) T v:=by
 have hheld : ∀ j,s1.m.held j = s.m.held j:=fun j=>by unfold Mem.held;rw [hmt]
 have h0:=h.h1 i t hi htm ⟨o,ht,ho⟩
 have hu:=fun j=>Mem.held_unlock (m:=s1.m) (th:=t) (i:=i) (by rw [hheld];exact h0) (by rw [hmt];omega) j
 refine h.next htm ht (fun j hj=>?_) hts hreg (fun x hx=>?_) (fun j x i hj _ hx hh=>by show (s1.slot i).time = _;rw [hsl];exact h.slot j x i hj hx hh) (fun x i hx hh=>?_) ?_
 · dsimp only
   rw [(hu j).1]
   by_cases c : j = i
   · subst c
     rw [if_pos rfl]
     exact .inr (.inr ⟨fun x=>((hH _ hj).1 x).2 rfl,ho,rfl⟩)
   · rw [if_neg c,hheld]
     by_cases d : o.Hd j
     · exact .inl ⟨(hH _ hj).2 ⟨d,c⟩,h.h1 j t hj htm ⟨o,ht,d⟩,fun x=>absurd d x⟩
     · exact .inr (.inl ⟨fun x=>d ((hH _ hj).1 x).1,d,rfl⟩)
 · obtain ⟨rfl,h2⟩:=left_some hx
   exact hrp h2
 · obtain ⟨rfl,h2⟩:=left_some hx
   show (s1.slot i).time = _
   rw [hsl];exact hsp i h2 hh
 · show (s1.m.unlock t i).1.viol = v
   rw [(hu 0).2,hv];exact h.viol
theorem alloc1_slot {s : Sto} {th t : Int} {l : List Int} {i : Nat} (hi : i < s.slots.length) (j : Nat) : (s.alloc1 th t l i).slot j = if j = i then ⟨0,0,t,s.next⟩ else s.slot j:=Sto.slot_set s i _ j hi
theorem LI.step {m n K : Nat} {s : Sto} {cs : Nat → Option IOp} {S : List Item} {A : Nat → Prop} {T v : Int} (h : LI m s cs T v) (hc : CI m n K s cs S A) (hK : K + 1 ≤ 20000) {t : Nat} {o : IOp} (htm : t < m) (ht : cs t = some o) :
 LI m (o.step s).2 (upd cs t (o.step s).1.left) T v:=by
 obtain ⟨hok,hth⟩:=hc.ops t o htm ht
 have hm4:=hc.sb.nm
 have htop : s.m.word 0 = T:=by rw [hc.sb.top,h.ts]
 have hreg:=h.reg t o htm ht
 have hslot:=fun i=>h.slot t o i htm ht
 have hheld:=fun i (hi : i < 4) (x : o.Hd i)=>h.h1 i t hi htm ⟨o,ht,x⟩
 obtain ⟨shp,th0,early,tm,full,won,hand⟩:=hok
 obtain ⟨th,x,pc,hd,hh,e,ok,ef,bl⟩:=o
 dsimp only at shp th0 early tm full won hand hth
 subst hth
 have nohnd : ok = false → ∀ (p : IOp),p.ok = false → ∀ (i : Nat),p.hnd i → (s.slot i).time = p.t:=fun _ p hp i y=>by have:=y.1;rw [hp] at this;cases this
 have lock : ∀ (i : Nat) (p q : PC),pc = p → i < 4 → ok = false → q ≠ .ret → p ≠ .ret →
  (∀ j,j < 4 → ((⟨t,x,q,if i = 3 then hd else hdPush hd i,hh,e,ok,false,false⟩ : IOp).Hd j ↔ (⟨t,x,p,hd,hh,e,ok,ef,bl⟩ : IOp).Hd j ∨ j = i)) →
  Reg T s.q ⟨t,x,q,if i = 3 then hd else hdPush hd i,hh,e,ok,false,false⟩ →
  LI m (IOp.lock ⟨t,x,pc,hd,hh,e,ok,ef,bl⟩ s i q).2 (upd cs t (IOp.lock ⟨t,x,pc,hd,hh,e,ok,ef,bl⟩ s i q).1.left) T v:=by
  rintro i p q rfl hi hok hq hp hHd hR
  unfold IOp.lock
  dsimp only
  by_cases hl : (s.m.lock t i).2 = true
  · rw [if_pos hl]
    exact h.take htm ht hi hm4 hl hHd hq hR (fun j y=>by have:=y.1;dsimp only at this;rw [hok] at this;cases this)
  · rw [if_neg hl]
    have hl : (s.m.lock t i).2 = false:=by simpa using hl
    exact h.move htm ht (fun j=>(Mem.held_nolock hl j).1) rfl (fun _=>rfl) (s.m.lock_same t i).2.2.2 (fun j _=>Iff.rfl) hp hreg (nohnd hok _ hok)
 have alloc : pc = .alloc → (∀ p : IOp,p.t = x → p.hd = hd → p.pc = .leave → Reg T s.q p) →
  LI m (IOp.step ⟨t,x,pc,hd,hh,e,ok,ef,bl⟩ s).2 (upd cs t (IOp.step ⟨t,x,pc,hd,hh,e,ok,ef,bl⟩ s).1.left) T v:=by
  rintro rfl hR
  obtain ⟨rfl,rfl,rfl⟩:=early rfl
  have h3 : s.touch t [3] = s:=Sto.touch_id fun i hi=>by
   rw [List.mem_singleton] at hi;subst hi
   exact hheld 3 (by omega) (.inr ⟨rfl,.inl rfl⟩)
  unfold IOp.step
  dsimp only
  rcases hc.sb.last with hid | ⟨l,i,hid,hi,h1,_⟩
  · rw [allocF_nil hid,if_neg Bool.false_ne_true]
    dsimp only
    rw [h3]
    exact h.move htm ht (fun _=>rfl) rfl (fun _=>rfl) rfl (fun j _=>⟨fun y=>y.imp id fun z=>⟨z.1,.inl rfl⟩,fun y=>y.imp id fun z=>⟨z.1,.inr rfl⟩⟩) (by simp) (hR _ rfl rfl rfl) (nohnd rfl _ rfl)
  · rw [allocF_last hid,if_pos rfl]
    dsimp only
    rw [h3]
    have hn:=hc.sb.n12
    have hkb:=hc.sb.kb
    have hwd:=hc.sb.wd i hi
    have hsl:=(slotH_mk (g:=s.gn i) (i:=i) ⟨by have:=hwd.1;unfold Sto.gn;omega,by have:=hwd.2;omega⟩ (by omega)).1
    have hsi : i < s.slots.length:=by rw [hc.sb.ns];exact hi
    refine h.next htm ht (fun j hj=>?_) h.ts (fun j y hj _ hy=>h.reg j y hj hy) (fun y hy=>?_) (fun j y i' hj hne hy hh=>?_) (fun y i' hy hh=>?_) h.viol
    · by_cases c : (⟨t,x,.alloc,hd,0,0,false,ef,bl⟩ : IOp).Hd j
      · exact .inl ⟨hdO_left.2 ⟨by simp,c.imp id fun z=>⟨z.1,.inr rfl⟩⟩,hheld j hj c,fun z=>absurd c z⟩
      · exact .inr (.inl ⟨fun z=>c ((hdO_left.1 z).2.imp id fun z=>⟨z.1,.inl rfl⟩),c,rfl⟩)
    · obtain ⟨rfl,_⟩:=left_some hy
      exact hR _ rfl rfl rfl
    · obtain ⟨b1,_⟩:=hc.ops j y hj hy
      obtain ⟨k,c1,c2,c3⟩:=b1.hand hh.1 hh.2.1
      have:=hh.2.2
      have e2 : k = i':=by omega
      subst e2
      rw [alloc1_slot hsi,if_neg fun z=>(hc.sb.hand k c3).2 (by rw [z];exact h1)]
      exact h.slot j y k hj hy hh
    · obtain ⟨rfl,_⟩:=left_some hy
      have h6 : slotH (64 * s.gn i + i) = (i' : Int):=hh.2.2
      rw [alloc1_slot hsi,if_pos (by omega)]
 have rls : (pc = .put ∨ pc = .rel) → ∀ (q : PC) (hd' : Option (List Int × Nat)) (j : Nat),j < 4 → (⟨t,x,pc,hd,hh,e,ok,ef,bl⟩ : IOp).Hd j → (∀ i,i < 4 → (HdO (IOp.left ⟨t,x,q,hd',hh,e,ok,false,false⟩) i ↔ (⟨t,x,pc,hd,hh,e,ok,ef,bl⟩ : IOp).Hd i ∧ i ≠ j)) → (q = .ret ∨ q = .rel) →
  (pc = .put → ok = true → ∀ i,(s.slot i).time = x → (∀ k ∈ s.putL x,(⟨t,x,pc,hd,hh,e,ok,ef,bl⟩ : IOp).Hd k ∧ k < 4) ∧ (T ≤ x ∨ (⟨t,x,pc,hd,hh,e,ok,ef,bl⟩ : IOp).Hd 1)) →
  LI m { (if pc = .put then IOp.putS ⟨t,x,pc,hd,hh,e,ok,ef,bl⟩ s else s) with m:=((if pc = .put then IOp.putS ⟨t,x,pc,hd,hh,e,ok,ef,bl⟩ s else s).m.unlock t j).1 } (upd cs t (IOp.left ⟨t,x,q,hd',hh,e,ok,false,false⟩)) T v:=by
  intro hpc q hd' j hj hHj hHd hq hput
  have hr : ∀ (Q : Lad),(⟨t,x,q,hd',hh,e,ok,false,false⟩ : IOp).pc ≠ .ret → Reg T Q ⟨t,x,q,hd',hh,e,ok,false,false⟩:=fun Q hne=>by
   have : q = .rel:=hq.resolve_left hne
   subst this;exact trivial
  have hs : ∀ i,(⟨t,x,q,hd',hh,e,ok,false,false⟩ : IOp).pc ≠ .ret → (⟨t,x,q,hd',hh,e,ok,false,false⟩ : IOp).hnd i → (s.slot i).time = x:=fun i hne y=>by
   have : q = .rel:=hq.resolve_left hne
   subst this
   rcases y.2.1 with z | z <;> cases z
  by_cases hp : pc = .put ∧ ok = true
  · obtain ⟨rfl,rfl⟩:=hp
    rw [if_pos rfl]
    obtain ⟨i,hi,hs1,ha⟩:=hand rfl (.inr rfl)
    have hps : IOp.putS ⟨t,x,.put,hd,hh,e,true,ef,bl⟩ s = s.put t i:=by
     unfold IOp.putS
     dsimp only
     rw [if_pos rfl,show (slotH hh).toNat = i by omega]
    have htime:=hslot i ⟨rfl,.inr rfl,hs1⟩
    dsimp only at htime
    obtain ⟨hl,hor⟩:=hput rfl rfl i htime
    have hid : s.touch t (s.putL (s.slot i).time) = s:=Sto.touch_id fun k hk=>by
     rw [htime] at hk
     exact hheld k (hl k hk).2 (hl k hk).1
    have hput2 : s.put t i = { s with q:=insLad s.q (s.item i) }:=by unfold Sto.put;rw [hid]
    rw [hps,hput2]
    have hit : (s.item i).time = x:=htime
    refine h.free htm ht hj hm4 rfl rfl hHj hHd (by show (insLad s.q (s.item i)).topStart = T;rw [insLad_top,h.ts]) (fun j' y hj' hne hy=>?_) (hr _) (fun _=>rfl) hs
    have h0:=h.reg j' y hj' hy
    rcases hor with h1 | h1
    · exact h0.same fun t'=>accQ_top (by rw [h.ts,hit];exact h1) t'
    · refine h0.out fun h2=>hne ?_
      have e1:=h.h1 1 j' (by omega) hj' ⟨y,hy,h2⟩
      have e2:=hheld 1 (by omega) h1
      rw [e1] at e2
      have:=congrArg Prod.snd e2
      simp only at this
      omega
  · have hss : (if pc = .put then IOp.putS ⟨t,x,pc,hd,hh,e,ok,ef,bl⟩ s else s) = s:=by
     by_cases c : pc = .put
     · rw [if_pos c]
       unfold IOp.putS
       dsimp only
       rw [if_neg fun z=>hp ⟨c,z⟩]
     · rw [if_neg c]
    rw [hss]
    exact h.free htm ht hj hm4 rfl rfl hHj hHd h.ts (fun j' y hj' _ hy=>h.reg j' y hj' hy) (hr _) (fun _=>rfl) hs
 have leave : pc = .leave → (∀ (j : Nat),j < 4 → ((j : Int) ∈ hdL hd → j ≠ 3)) → (∀ p : IOp,p.t = x → p.hd = hd → p.pc = .put → Reg T s.q p) →
  LI m (IOp.step ⟨t,x,pc,hd,hh,e,ok,ef,bl⟩ s).2 (upd cs t (IOp.step ⟨t,x,pc,hd,hh,e,ok,ef,bl⟩ s).1.left) T v:=by
  rintro rfl hne hR
  refine h.free (s1:=s) htm ht (i:=3) (by omega) hm4 rfl rfl (.inr ⟨rfl,.inr rfl⟩) (fun j hj=>?_) h.ts (fun j' y hj' _ hy=>h.reg j' y hj' hy) (fun _=>hR _ rfl rfl rfl) (fun _=>rfl) (fun i _ y=>hslot i ⟨y.1,.inl rfl,y.2.2⟩)
  constructor
  · intro y
    rcases (hdO_left.1 y).2 with z | ⟨_,z | z⟩
    · exact ⟨.inl z,hne j hj z⟩
    · cases z
    · cases z
  · rintro ⟨y | y,z⟩
    · exact hdO_left.2 ⟨by show PC.put ≠ .ret;simp,.inl y⟩
    · exact absurd y.1 z
 cases shp with
 | start=>
  obtain ⟨rfl,rfl,rfl⟩:=early rfl
  have hno : ∀ i,¬ (⟨t,x,.start,none,0,0,false,ef,bl⟩ : IOp).Hd i:=fun i=>hd_none rfl (by simp) (by simp)
  unfold IOp.step
  dsimp only
  by_cases hb : x < 0 ∨ 1152921504606846976 < x
  · rw [if_pos hb]
    exact h.next htm ht (fun i hi=>.inr (.inl ⟨fun y=>(hdO_left.1 y).1 rfl,hno i,rfl⟩)) h.ts (fun j y hj _ hy=>h.reg j y hj hy) (fun y hy=>(by cases hy)) (fun j y i hj _ hy hh=>h.slot j y i hj hy hh) (fun y i hy=>(by cases hy)) h.viol
  · rw [if_neg hb]
    rw [htop]
    by_cases hw : T ≤ x
    · rw [if_pos hw]
      exact h.move htm ht (fun _=>rfl) rfl (fun _=>rfl) rfl (fun j _=>⟨fun y=>absurd y (hd_none rfl (by simp) (by simp)),fun y=>absurd y (hno j)⟩) (by simp) hw (nohnd rfl _ rfl)
    · rw [if_neg hw]
      exact h.move htm ht (fun _=>rfl) rfl (fun _=>rfl) rfl (fun j _=>⟨fun y=>absurd y (hd_none rfl (by simp) (by simp)),fun y=>absurd y (hno j)⟩) (by simp) ⟨rfl,by show x < T;omega⟩ (nohnd rfl _ rfl)
 | top=>
  refine lock 0 .top .conf rfl (by omega) (early rfl).1 (by simp) (by simp) (fun j hj=>?_) hreg
  simp [IOp.Hd,hdL,hdPush]
 | r0=>
  refine lock 1 .rungs .choose rfl (by omega) (early rfl).1 (by simp) (by simp) (fun j hj=>?_) hreg.2
  simp [IOp.Hd,hdL,hdPush];omega
 | r1=>exact absurd hreg.1 (by simp)
 | bottom=>
  refine lock 2 .bottom .arena rfl (by omega) (early rfl).1 (by simp) (by simp) (fun j hj=>?_) ⟨fun y=>(by cases y),fun y=>(by cases y),fun _=>hreg⟩
  simp [IOp.Hd,hdL,hdPush];omega
 | a0=>
  refine lock 3 .arena .alloc rfl (by omega) (early rfl).1 (by simp) (by simp) (fun j hj=>?_) hreg
  simp [IOp.Hd,hdL,hdPush]
 | a1=>
  refine lock 3 .arena .alloc rfl (by omega) (early rfl).1 (by simp) (by simp) (fun j hj=>?_) hreg
  simp [IOp.Hd,hdL,hdPush]
 | a2=>
  refine lock 3 .arena .alloc rfl (by omega) (early rfl).1 (by simp) (by simp) (fun j hj=>?_) hreg
  simp [IOp.Hd,hdL,hdPush]
 | conf=>
  obtain ⟨rfl,rfl,rfl⟩:=early rfl
  unfold IOp.step
  dsimp only
  rw [htop,if_pos (show T ≤ x from hreg)]
  exact h.move htm ht (fun _=>rfl) rfl (fun _=>rfl) rfl (fun j _=>by simp [IOp.Hd]) (by simp) ⟨fun _=>hreg,fun y=>(by cases y),fun y=>(by cases y)⟩ (nohnd rfl _ rfl)
 | undo=>exact absurd hreg id
 | choose=>
  obtain ⟨rfl,rfl,rfl⟩:=early rfl
  have h1 : s.touch t [1] = s:=Sto.touch_id fun i hi=>by
   rw [List.mem_singleton] at hi;subst hi
   exact hheld 1 (by omega) (.inl (by simp [hdL]))
  unfold IOp.step
  dsimp only
  have hacc : s.accepts t x = (s,accQ s.q x):=by unfold Sto.accepts;rw [h1]
  rw [hacc]
  dsimp only
  cases hz : accQ s.q x with
  | true=>
   rw [if_pos rfl]
   exact h.move htm ht (fun _=>rfl) rfl (fun _=>rfl) rfl (fun j _=>by simp [IOp.Hd]) (by simp) ⟨fun y=>(by cases y),fun _=>⟨hreg,hz⟩,fun y=>(by cases y)⟩ (nohnd rfl _ rfl)
  | false=>
   rw [if_neg Bool.false_ne_true]
   exact h.move htm ht (fun _=>rfl) rfl (fun _=>rfl) rfl (fun j _=>by simp [IOp.Hd]) (by simp) hreg (nohnd rfl _ rfl)
 | l0=>exact alloc rfl fun p h1 h2 h3=>by unfold Reg at hreg ⊢;rw [h3,h1,h2];exact hreg
 | l1=>exact alloc rfl fun p h1 h2 h3=>by unfold Reg at hreg ⊢;rw [h3,h1,h2];exact hreg
 | l2=>exact alloc rfl fun p h1 h2 h3=>by unfold Reg at hreg ⊢;rw [h3,h1,h2];exact hreg
 | v0=>exact leave rfl (fun j hj y=>by simp [hdL] at y;omega) fun p h1 h2 h3=>by unfold Reg at hreg ⊢;rw [h3,h1,h2];exact hreg
 | v1=>exact leave rfl (fun j hj y=>by simp [hdL] at y;omega) fun p h1 h2 h3=>by unfold Reg at hreg ⊢;rw [h3,h1,h2];exact hreg
 | v2=>exact leave rfl (fun j hj y=>by simp [hdL] at y;omega) fun p h1 h2 h3=>by unfold Reg at hreg ⊢;rw [h3,h1,h2];exact hreg
 | p0=>
  have hx : T ≤ x:=hreg.1 rfl
  have:=rls (.inl rfl) .ret (some ([0],0)) 0 (by omega) (.inl (by simp [hdL])) (fun i hi=>?_) (.inl rfl) (fun _ _ i htm=>⟨fun k hk=>?_,.inl hx⟩)
  · rw [if_pos rfl] at this;exact this
  · rw [hdO_left];simp [IOp.Hd,hdL]
  · unfold Sto.putL at hk
    rw [if_pos (by rw [h.ts];exact hx),List.mem_singleton] at hk
    subst hk
    exact ⟨.inl (by simp [hdL]),by omega⟩
 | p1=>
  obtain ⟨hx,ha⟩:=hreg.2.1 rfl
  have:=rls (.inl rfl) .ret (some ([1],0)) 1 (by omega) (.inl (by simp [hdL])) (fun i hi=>?_) (.inl rfl) (fun _ _ i htm=>⟨fun k hk=>?_,.inr (.inl (by simp [hdL]))⟩)
  · rw [if_pos rfl] at this;exact this
  · rw [hdO_left];simp [IOp.Hd,hdL];omega
  · unfold Sto.putL at hk
    dsimp only at hx ha
    rw [if_neg (by rw [h.ts];omega),if_pos ha,List.mem_singleton] at hk
    subst hk
    exact ⟨.inl (by simp [hdL]),by omega⟩
 | p2=>
  have hx : x < T:=hreg.2.2 rfl
  have:=rls (.inl rfl) .rel (some ([1,2],1)) 2 (by omega) (.inl (by simp [hdL])) (fun i hi=>?_) (.inr rfl) (fun _ _ i htm=>⟨fun k hk=>?_,.inr (.inl (by simp [hdL]))⟩)
  · rw [if_pos rfl] at this;exact this
  · rw [hdO_left];simp [IOp.Hd,hdL];omega
  · unfold Sto.putL at hk
    rw [if_neg (by rw [h.ts];omega)] at hk
    have hk : k = 1 ∨ k = 2:=by
     split at hk
     · left;simpa using hk
     · simpa using hk
    rcases hk with rfl | rfl
    · exact ⟨.inl (by simp [hdL]),by omega⟩
    · exact ⟨.inl (by simp [hdL]),by omega⟩
 | rel=>
  have:=rls (.inr rfl) .ret (some ([1,2],0)) 1 (by omega) (.inl (by simp [hdL])) (fun i hi=>?_) (.inl rfl) (fun y=>(by cases y))
  · rw [if_neg (by simp)] at this;exact this
  · rw [hdO_left];simp [IOp.Hd,hdL];omega
structure PS where
 i : Nat
 nx : Nat
 opn : Int
 s : Sto
 cs : Nat → Option IOp
 mine : Nat → Nat
 res : List (Int × Int)
 ord : List Nat
 el : List (Int × Int)
def PS.go (y : PS) (t : Nat) (o : IOp) : PS:=
 { i := y.i + 1, nx := y.nx, opn := if (o.step y.s).1.done = true then y.opn - 1 else y.opn, s := (o.step y.s).2, cs := upd y.cs t (o.step y.s).1.left, mine := y.mine,
   res:=if (o.step y.s).1.done = true then y.res.set (y.mine t) ((o.step y.s).1.e,(o.step y.s).1.h) else y.res,
   ord:=if (o.step y.s).1.eff = true then y.ord ++ [y.mine t] else y.ord,el:=if (o.step y.s).1.eff = true then y.el ++ [((o.step y.s).1.e,(o.step y.s).1.h)] else y.el }
def PS.new (y : PS) (t : Nat) : PS:={ y with nx:=y.nx + 1,opn:=y.opn + 1,mine:=upd y.mine t y.nx }
def PS.rnd (times : List Int) (t : Nat) (y : PS) : PS:=
 match y.cs t with
 | some o=>y.go t o
 | none=>if y.nx < times.length then (y.new t).go t (.new t (timeI (times.getD y.nx 0))) else { y with i:=y.i + 1 }
def cnt4 (f : Nat → Nat) : Nat:=f 0 + f 1 + f 2 + f 3
theorem cnt4_upd (f : Nat → Nat) {t : Nat} (ht : t < 4) (v : Nat) : cnt4 (upd f t v) + f t = cnt4 f + v:=by
 unfold cnt4
 rcases (show t = 0 ∨ t = 1 ∨ t = 2 ∨ t = 3 by omega) with rfl | rfl | rfl | rfl <;> simp [upd] <;> omega
def oneO (o : Option IOp) : Nat:=match o with
 | none=>0
 | some _=>1
def earlyO (o : Option IOp) : Nat:=match o with
 | none=>0
 | some p=>match p.pc.late with
  | true=>0
  | false=>1
def PC.rem : PC → Nat
 | .ret=>0 | .start=>9 | .top=>7 | .conf=>6 | .undo=>0 | .rungs=>8 | .choose=>7 | .bottom=>6 | .arena=>5 | .alloc=>4 | .leave=>3 | .put=>2 | .rel=>1
def remO (o : Option IOp) : Nat:=match o with
 | none=>0
 | some p=>p.pc.rem
theorem upd_comp {α β : Type} (g : α → β) (f : Nat → α) (t : Nat) (v : α) : (fun j=>g (upd f t v j)) = upd (fun j=>g (f j)) t (g v):=by
 funext j
 by_cases e : j = t
 · subst e;rw [upd_same,upd_same]
 · rw [upd_ne _ _ _ _ e,upd_ne _ _ _ _ e]
theorem remO_left (o : IOp) : remO o.left = o.pc.rem:=by
 unfold IOp.left remO
 cases h : o.pc <;> simp [h,PC.rem]
theorem oneO_left (o : IOp) : oneO o.left = if o.done = true then 0 else 1:=by
 unfold IOp.left oneO IOp.done
 cases h : o.pc <;> simp
theorem earlyO_left (o : IOp) : earlyO o.left = if o.pc.late = true then 0 else 1:=by
 unfold IOp.left earlyO
 cases h : o.pc <;> simp [h,PC.late]
structure StepE (o o1 : IOp) : Prop where
 eff : o1.eff = (!o.pc.late && o1.pc.late)
 keep : o.pc.late = true → o1.e = o.e ∧ o1.h = o.h ∧ o1.pc.late = true
theorem step_eff {n : Nat} {s : Sto} {A : Nat → Prop} {o : IOp} (ho : IOk n A o) : StepE o (o.step s).1:=by
 obtain ⟨shp,th0,early,tm,full,won,hand⟩:=ho
 obtain ⟨th,x,pc,hd,hh,e,ok,ef,bl⟩:=o
 dsimp only at shp early
 have lock : ∀ (i : Nat) (p q : PC),pc = p → p.late = false → q.late = false → StepE ⟨th,x,pc,hd,hh,e,ok,ef,bl⟩ (IOp.lock ⟨th,x,pc,hd,hh,e,ok,ef,bl⟩ s i q).1:=by
  rintro i p q rfl h1 h2
  unfold IOp.lock
  split
  · exact ⟨by dsimp only;rw [h1,h2];rfl,fun y=>by dsimp only at y;rw [h1] at y;cases y⟩
  · exact ⟨by dsimp only;rw [h1];rfl,fun y=>by dsimp only at y;rw [h1] at y;cases y⟩
 have alloc : pc = .alloc → StepE ⟨th,x,pc,hd,hh,e,ok,ef,bl⟩ (IOp.step ⟨th,x,pc,hd,hh,e,ok,ef,bl⟩ s).1:=by
  rintro rfl
  unfold IOp.step
  dsimp only
  split
  · exact ⟨rfl,fun y=>by cases y⟩
  · exact ⟨rfl,fun y=>by cases y⟩
 have rls : (pc = .put ∨ pc = .rel) → StepE ⟨th,x,pc,hd,hh,e,ok,ef,bl⟩ (IOp.step ⟨th,x,pc,hd,hh,e,ok,ef,bl⟩ s).1:=by
  rintro (rfl | rfl)
  · refine ⟨rfl,fun _=>⟨rfl,rfl,?_⟩⟩
    show (if (hdL hd).length ≤ 1 then PC.ret else PC.rel).late = true
    split <;> rfl
  · refine ⟨rfl,fun _=>⟨rfl,rfl,?_⟩⟩
    show (if (hdL hd).length ≤ 1 then PC.ret else PC.rel).late = true
    split <;> rfl
 cases shp with
 | start=>
  unfold IOp.step
  dsimp only
  split
  · exact ⟨rfl,fun y=>by cases y⟩
  · split <;> exact ⟨rfl,fun y=>by cases y⟩
 | top=>exact lock 0 .top .conf rfl rfl rfl
 | r0=>exact lock 1 .rungs .choose rfl rfl rfl
 | r1=>exact lock 1 .rungs .choose rfl rfl rfl
 | bottom=>exact lock 2 .bottom .arena rfl rfl rfl
 | a0=>exact lock 3 .arena .alloc rfl rfl rfl
 | a1=>exact lock 3 .arena .alloc rfl rfl rfl
 | a2=>exact lock 3 .arena .alloc rfl rfl rfl
 | conf=>
  unfold IOp.step
  dsimp only
  split <;> exact ⟨rfl,fun y=>by cases y⟩
 | undo=>exact ⟨rfl,fun y=>by cases y⟩
 | choose=>
  unfold IOp.step
  dsimp only
  split <;> exact ⟨rfl,fun y=>by cases y⟩
 | l0=>exact alloc rfl
 | l1=>exact alloc rfl
 | l2=>exact alloc rfl
 | v0=>exact ⟨rfl,fun _=>⟨rfl,rfl,rfl⟩⟩
 | v1=>exact ⟨rfl,fun _=>⟨rfl,rfl,rfl⟩⟩
 | v2=>exact ⟨rfl,fun _=>⟨rfl,rfl,rfl⟩⟩
 | p0=>exact rls (.inl rfl)
 | p1=>exact rls (.inl rfl)
 | p2=>exact rls (.inl rfl)
 | rel=>exact rls (.inr rfl)
theorem step_rem {n : Nat} {s : Sto} {A : Nat → Prop} {o : IOp} (ho : IOk n A o) {T : Int} (hr : Reg T s.q o) (hw : s.m.word 0 = T) :
 (o.pc.mx = none → (o.step s).1.pc.rem < o.pc.rem) ∧ ∀ i q,o.pc.mx = some (i,q) → ((s.m.held i).1 = false → (o.step s).1.pc.rem < o.pc.rem) ∧ ((s.m.held i).1 = true → (o.step s).1.pc = o.pc ∧ (o.step s).2 = { s with m:=(s.m.lock o.th i).1 } ∧ ∀ j,(o.step s).2.m.held j = s.m.held j):=by
 obtain ⟨shp,th0,early,tm,full,won,hand⟩:=ho
 obtain ⟨th,x,pc,hd,hh,e,ok,ef,bl⟩:=o
 dsimp only at shp
 have lock : ∀ (i : Nat) (p q : PC),pc = p → p.mx = some (i,q) → q.rem < p.rem → (IOp.step ⟨th,x,pc,hd,hh,e,ok,ef,bl⟩ s) = (IOp.lock ⟨th,x,pc,hd,hh,e,ok,ef,bl⟩ s i q) →
  (pc.mx = none → (IOp.step ⟨th,x,pc,hd,hh,e,ok,ef,bl⟩ s).1.pc.rem < pc.rem) ∧ ∀ i q,pc.mx = some (i,q) → ((s.m.held i).1 = false → (IOp.step ⟨th,x,pc,hd,hh,e,ok,ef,bl⟩ s).1.pc.rem < pc.rem) ∧ ((s.m.held i).1 = true → (IOp.step ⟨th,x,pc,hd,hh,e,ok,ef,bl⟩ s).1.pc = pc ∧ (IOp.step ⟨th,x,pc,hd,hh,e,ok,ef,bl⟩ s).2 = { s with m:=(s.m.lock th i).1 } ∧ ∀ j,(IOp.step ⟨th,x,pc,hd,hh,e,ok,ef,bl⟩ s).2.m.held j = s.m.held j):=by
  rintro i p q rfl hmx hlt he
  rw [he]
  refine ⟨fun y=>(by rw [hmx] at y;cases y),fun i' q' hm=>?_⟩
  rw [hmx] at hm
  cases hm
  unfold IOp.lock
  dsimp only
  refine ⟨fun y=>?_,fun y=>?_⟩
  · have hl : (s.m.lock th i).2 = true:=by unfold Mem.lock;rw [if_neg (by rw [y];simp)]
    rw [if_pos hl];exact hlt
  · have hl : (s.m.lock th i).2 = false:=by unfold Mem.lock;rw [if_pos y]
    rw [if_neg (by rw [hl];simp)]
    exact ⟨rfl,rfl,fun j=>(Mem.held_nolock hl j).1⟩
 have no : pc.mx = none → (IOp.step ⟨th,x,pc,hd,hh,e,ok,ef,bl⟩ s).1.pc.rem < pc.rem →
  (pc.mx = none → (IOp.step ⟨th,x,pc,hd,hh,e,ok,ef,bl⟩ s).1.pc.rem < pc.rem) ∧ ∀ i q,pc.mx = some (i,q) → ((s.m.held i).1 = false → (IOp.step ⟨th,x,pc,hd,hh,e,ok,ef,bl⟩ s).1.pc.rem < pc.rem) ∧ ((s.m.held i).1 = true → (IOp.step ⟨th,x,pc,hd,hh,e,ok,ef,bl⟩ s).1.pc = pc ∧ (IOp.step ⟨th,x,pc,hd,hh,e,ok,ef,bl⟩ s).2 = { s with m:=(s.m.lock th i).1 } ∧ ∀ j,(IOp.step ⟨th,x,pc,hd,hh,e,ok,ef,bl⟩ s).2.m.held j = s.m.held j):=
  fun h1 h2=>⟨fun _=>h2,fun i q h=>by rw [h1] at h;cases h⟩
 have alloc : pc = .alloc → (IOp.step ⟨th,x,pc,hd,hh,e,ok,ef,bl⟩ s).1.pc.rem < pc.rem:=by
  rintro rfl
  unfold IOp.step
  dsimp only
  split <;> simp [PC.rem]
 cases shp with
 | start=>
  refine no rfl ?_
  unfold IOp.step
  dsimp only
  split
  · simp [PC.rem]
  · dsimp only;split <;> simp [PC.rem]
 | top=>exact lock 0 .top .conf rfl rfl (by simp [PC.rem]) rfl
 | r0=>exact lock 1 .rungs .choose rfl rfl (by simp [PC.rem]) rfl
 | r1=>exact lock 1 .rungs .choose rfl rfl (by simp [PC.rem]) rfl
 | bottom=>exact lock 2 .bottom .arena rfl rfl (by simp [PC.rem]) rfl
 | a0=>exact lock 3 .arena .alloc rfl rfl (by simp [PC.rem]) rfl
 | a1=>exact lock 3 .arena .alloc rfl rfl (by simp [PC.rem]) rfl
 | a2=>exact lock 3 .arena .alloc rfl rfl (by simp [PC.rem]) rfl
 | conf=>
  refine no rfl ?_
  unfold IOp.step
  dsimp only
  rw [hw,if_pos (show T ≤ x from hr)]
  simp [PC.rem]
 | undo=>exact absurd hr id
 | choose=>
  refine no rfl ?_
  unfold IOp.step
  dsimp only
  split <;> simp [PC.rem]
 | l0=>exact no rfl (alloc rfl)
 | l1=>exact no rfl (alloc rfl)
 | l2=>exact no rfl (alloc rfl)
 | v0=>exact no rfl (by show PC.put.rem < PC.leave.rem;simp [PC.rem])
 | v1=>exact no rfl (by show PC.put.rem < PC.leave.rem;simp [PC.rem])
 | v2=>exact no rfl (by show PC.put.rem < PC.leave.rem;simp [PC.rem])
 | p0=>exact no rfl (by show PC.ret.rem < PC.put.rem;simp [PC.rem])
 | p1=>exact no rfl (by show PC.ret.rem < PC.put.rem;simp [PC.rem])
 | p2=>exact no rfl (by show PC.rel.rem < PC.put.rem;simp [PC.rem])
 | rel=>exact no rfl (by show PC.ret.rem < PC.rel.rem;simp [PC.rem])
theorem step_store {n : Nat} {s : Sto} {S : List Item} {A : Nat → Prop} {K : Nat} (h : SB n s S A K) {o : IOp} (ho : IOk n A o) :
 ((∀ i,(o.step s).2.slot i = s.slot i) ∧ (o.step s).2.idle = s.idle ∧ (o.step s).2.next = s.next ∧ (∀ j,(o.step s).2.st j = s.st j ∧ (o.step s).2.gn j = s.gn j) ∧ ((o.step s).1.eff = true → (o.step s).1.e = 1 ∨ ((o.step s).1.e = 10 ∧ s.idle = []))) ∨
 ∃ l i,s.idle = l ++ [((i : Nat) : Int)] ∧ i < n ∧ s.st i = 0 ∧ (o.step s).2 = (s.touch o.th [3]).alloc1 o.th o.t l i ∧ (o.step s).1.eff = true ∧ (o.step s).1.e = 0 ∧ (o.step s).1.h = 64 * s.gn i + i:=by
 have hwl : 0 < s.m.words.length:=by rw [h.nw];omega
 obtain ⟨shp,th0,early,tm,full,won,hand⟩:=ho
 obtain ⟨th,x,pc,hd,hh,e,ok,ef,bl⟩:=o
 dsimp only at shp early
 have wd : ∀ (m : Mem),m.words = s.m.words → ∀ j,Sto.st { s with m:=m } j = s.st j ∧ Sto.gn { s with m:=m } j = s.gn j:=fun m hm j=>by
  unfold Sto.st Sto.gn Mem.word;dsimp only;rw [hm];exact ⟨rfl,rfl⟩
 have wd2 : ∀ (s1 : Sto),s1.m.words = s.m.words → ∀ j,s1.st j = s.st j ∧ s1.gn j = s.gn j:=fun s1 hm j=>by
  unfold Sto.st Sto.gn Mem.word;rw [hm];exact ⟨rfl,rfl⟩
 have lock : ∀ (i : Nat) (p q : PC),pc = p → (IOp.step ⟨th,x,pc,hd,hh,e,ok,ef,bl⟩ s) = (IOp.lock ⟨th,x,pc,hd,hh,e,ok,ef,bl⟩ s i q) →
  ((∀ i,(IOp.step ⟨th,x,pc,hd,hh,e,ok,ef,bl⟩ s).2.slot i = s.slot i) ∧ (IOp.step ⟨th,x,pc,hd,hh,e,ok,ef,bl⟩ s).2.idle = s.idle ∧ (IOp.step ⟨th,x,pc,hd,hh,e,ok,ef,bl⟩ s).2.next = s.next ∧ (∀ j,(IOp.step ⟨th,x,pc,hd,hh,e,ok,ef,bl⟩ s).2.st j = s.st j ∧ (IOp.step ⟨th,x,pc,hd,hh,e,ok,ef,bl⟩ s).2.gn j = s.gn j) ∧ ((IOp.step ⟨th,x,pc,hd,hh,e,ok,ef,bl⟩ s).1.eff = true → (IOp.step ⟨th,x,pc,hd,hh,e,ok,ef,bl⟩ s).1.e = 1 ∨ ((IOp.step ⟨th,x,pc,hd,hh,e,ok,ef,bl⟩ s).1.e = 10 ∧ s.idle = []))):=by
  intro i p q hp he
  rw [he]
  unfold IOp.lock
  split
  · exact ⟨fun _=>rfl,rfl,rfl,wd _ (s.m.lock_same th i).1,fun y=>by cases y⟩
  · exact ⟨fun _=>rfl,rfl,rfl,wd _ (s.m.lock_same th i).1,fun y=>by cases y⟩
 have alloc : pc = .alloc →
  ((∀ i,(IOp.step ⟨th,x,pc,hd,hh,e,ok,ef,bl⟩ s).2.slot i = s.slot i) ∧ (IOp.step ⟨th,x,pc,hd,hh,e,ok,ef,bl⟩ s).2.idle = s.idle ∧ (IOp.step ⟨th,x,pc,hd,hh,e,ok,ef,bl⟩ s).2.next = s.next ∧ (∀ j,(IOp.step ⟨th,x,pc,hd,hh,e,ok,ef,bl⟩ s).2.st j = s.st j ∧ (IOp.step ⟨th,x,pc,hd,hh,e,ok,ef,bl⟩ s).2.gn j = s.gn j) ∧ ((IOp.step ⟨th,x,pc,hd,hh,e,ok,ef,bl⟩ s).1.eff = true → (IOp.step ⟨th,x,pc,hd,hh,e,ok,ef,bl⟩ s).1.e = 1 ∨ ((IOp.step ⟨th,x,pc,hd,hh,e,ok,ef,bl⟩ s).1.e = 10 ∧ s.idle = []))) ∨
  ∃ l i,s.idle = l ++ [((i : Nat) : Int)] ∧ i < n ∧ s.st i = 0 ∧ (IOp.step ⟨th,x,pc,hd,hh,e,ok,ef,bl⟩ s).2 = (s.touch th [3]).alloc1 th x l i ∧ (IOp.step ⟨th,x,pc,hd,hh,e,ok,ef,bl⟩ s).1.eff = true ∧ (IOp.step ⟨th,x,pc,hd,hh,e,ok,ef,bl⟩ s).1.e = 0 ∧ (IOp.step ⟨th,x,pc,hd,hh,e,ok,ef,bl⟩ s).1.h = 64 * s.gn i + i:=by
  rintro rfl
  obtain ⟨rfl,rfl,rfl⟩:=early rfl
  obtain ⟨t1,t2,t3,t4,t5⟩:=touches_same th [3] s.m
  unfold IOp.step
  dsimp only
  rcases h.last with hid | ⟨l,i,hid,hi,h1,_⟩
  · left
    rw [allocF_nil hid,if_neg Bool.false_ne_true]
    exact ⟨fun _=>rfl,rfl,rfl,wd2 (s.touch th [3]) t1,fun _=>.inr ⟨rfl,hid⟩⟩
  · right
    rw [allocF_last hid,if_pos rfl]
    exact ⟨l,i,hid,hi,h1,rfl,rfl,rfl,rfl⟩
 have ul : ∀ (s1 : Sto) (j : Nat) (o1 : IOp),o1.eff = false → s1.m.words = s.m.words → s1.slots = s.slots → s1.idle = s.idle → s1.next = s.next →
  ((∀ i,Sto.slot { s1 with m:=(s1.m.unlock th j).1 } i = s.slot i) ∧ s1.idle = s.idle ∧ s1.next = s.next ∧ (∀ k,Sto.st { s1 with m:=(s1.m.unlock th j).1 } k = s.st k ∧ Sto.gn { s1 with m:=(s1.m.unlock th j).1 } k = s.gn k) ∧ (o1.eff = true → o1.e = 1 ∨ (o1.e = 10 ∧ s.idle = []))):=by
  intro s1 j o1 h1 h2 h3 h4 h5
  refine ⟨fun i=>?_,h4,h5,wd2 _ ((s1.m.unlock_same th j).1.trans h2),fun y=>by rw [h1] at y;cases y⟩
  unfold Sto.slot;dsimp only;rw [h3]
 have put : (IOp.putS ⟨th,x,pc,hd,hh,e,ok,ef,bl⟩ s).m.words = s.m.words ∧ (IOp.putS ⟨th,x,pc,hd,hh,e,ok,ef,bl⟩ s).slots = s.slots ∧ (IOp.putS ⟨th,x,pc,hd,hh,e,ok,ef,bl⟩ s).idle = s.idle ∧ (IOp.putS ⟨th,x,pc,hd,hh,e,ok,ef,bl⟩ s).next = s.next:=by
  unfold IOp.putS
  dsimp only
  split
  · exact ⟨(touches_same th _ s.m).1,rfl,rfl,rfl⟩
  · exact ⟨rfl,rfl,rfl,rfl⟩
 obtain ⟨u1,u2,u3,u4⟩:=put
 cases shp with
 | start=>
  left
  unfold IOp.step
  dsimp only
  split
  · exact ⟨fun _=>rfl,rfl,rfl,fun _=>⟨rfl,rfl⟩,fun _=>.inl rfl⟩
  · exact ⟨fun _=>rfl,rfl,rfl,wd _ (mput_same _ _ _ _ _ hwl),fun y=>by cases y⟩
 | top=>exact .inl (lock 0 .top .conf rfl rfl)
 | r0=>exact .inl (lock 1 .rungs .choose rfl rfl)
 | r1=>exact .inl (lock 1 .rungs .choose rfl rfl)
 | bottom=>exact .inl (lock 2 .bottom .arena rfl rfl)
 | a0=>exact .inl (lock 3 .arena .alloc rfl rfl)
 | a1=>exact .inl (lock 3 .arena .alloc rfl rfl)
 | a2=>exact .inl (lock 3 .arena .alloc rfl rfl)
 | conf=>exact .inl ⟨fun _=>rfl,rfl,rfl,wd _ (mput_same _ _ _ _ _ hwl),fun y=>by cases y⟩
 | undo=>exact .inl (ul s _ _ rfl rfl rfl rfl rfl)
 | choose=>exact .inl ⟨fun _=>rfl,rfl,rfl,wd2 (s.touch th [1]) (touches_same th [1] s.m).1,fun y=>by cases y⟩
 | l0=>exact alloc rfl
 | l1=>exact alloc rfl
 | l2=>exact alloc rfl
 | v0=>exact .inl (ul s _ _ rfl rfl rfl rfl rfl)
 | v1=>exact .inl (ul s _ _ rfl rfl rfl rfl rfl)
 | v2=>exact .inl (ul s _ _ rfl rfl rfl rfl rfl)
 | p0=>exact .inl (ul _ _ ⟨th,x,.ret,some ([0],0),hh,e,ok,false,false⟩ rfl u1 u2 u3 u4)
 | p1=>exact .inl (ul _ _ ⟨th,x,.ret,some ([1],0),hh,e,ok,false,false⟩ rfl u1 u2 u3 u4)
 | p2=>exact .inl (ul _ _ ⟨th,x,.rel,some ([1,2],1),hh,e,ok,false,false⟩ rfl u1 u2 u3 u4)
 | rel=>exact .inl (ul s _ ⟨th,x,.ret,some ([1,2],0),hh,e,ok,false,false⟩ rfl rfl rfl rfl rfl)
def okN (l : List (Int × Int)) : Nat:=(l.filter fun p=>decide (p.1 = 0)).length
theorem okN_snoc (l : List (Int × Int)) (p : Int × Int) : okN (l ++ [p]) = okN l + if p.1 = 0 then 1 else 0:=by
 unfold okN
 rw [List.filter_append,List.length_append]
 by_cases h : p.1 = 0 <;> simp [h]
structure EF (n : Nat) (n0 : Int) (f0 : Nat) (s : Sto) (el : List (Int × Int)) : Prop where
 nx : s.next = n0 + (okN el : Int)
 fr : s.idle.length + okN el = f0
 mem : ∀ (p : Nat) (e h : Int),el[p]? = some (e,h) → (e = 0 → ∃ x : Nat,x < n ∧ slotH h = x ∧ genH h = s.gn x ∧ s.st x ≠ 0 ∧ (s.slot x).seq = n0 + (okN (el.take p) : Int)) ∧ (e = 10 → okN (el.take p) = f0) ∧ (e = 0 ∨ e = 10 ∨ e = 1)
theorem take_snoc {α : Type} {l : List α} {a : α} {p : Nat} (h : p ≤ l.length) : (l ++ [a]).take p = l.take p:=by
 rw [List.take_append_of_le_length h]
theorem snoc_get {α : Type} {l : List α} {a b : α} {p : Nat} (h : (l ++ [a])[p]? = some b) : (l[p]? = some b ∧ p < l.length) ∨ (p = l.length ∧ b = a):=by
 rcases Nat.lt_trichotomy p l.length with c | c | c
 · left;rw [List.getElem?_append_left c] at h;exact ⟨h,c⟩
 · right;subst c;rw [List.getElem?_append_right (Nat.le_refl _),Nat.sub_self] at h;cases h;exact ⟨rfl,rfl⟩
 · rw [List.getElem?_eq_none (by simp;omega)] at h;cases h
theorem EF.step {n : Nat} {s : Sto} {S : List Item} {A : Nat → Prop} {K : Nat} (h : SB n s S A K) {o : IOp} (ho : IOk n A o) {n0 : Int} {f0 : Nat} {el : List (Int × Int)} (he : EF n n0 f0 s el) :
 EF n n0 f0 (o.step s).2 (if (o.step s).1.eff = true then el ++ [((o.step s).1.e,(o.step s).1.h)] else el):=by
 rcases step_store h ho with ⟨a1,a2,a3,a4,a5⟩ | ⟨l,i,hid,hi,h1,hs,b1,b2,b3⟩
 · generalize (o.step s).2 = s1 at *
   generalize (o.step s).1 = o1 at *
   have old : ∀ (p : Nat) (e h : Int),el[p]? = some (e,h) → (e = 0 → ∃ x : Nat,x < n ∧ slotH h = x ∧ genH h = s1.gn x ∧ s1.st x ≠ 0 ∧ (s1.slot x).seq = n0 + (okN (el.take p) : Int)) ∧ (e = 10 → okN (el.take p) = f0) ∧ (e = 0 ∨ e = 10 ∨ e = 1):=fun p e h hp=>by
    obtain ⟨c1,c2,c3⟩:=he.mem p e h hp
    refine ⟨fun e0=>?_,c2,c3⟩
    obtain ⟨x,d1,d2,d3,d4,d5⟩:=c1 e0
    exact ⟨x,d1,d2,by rw [(a4 x).2];exact d3,by rw [(a4 x).1];exact d4,by rw [a1];exact d5⟩
   by_cases hef : o1.eff = true
   · rw [if_pos hef]
     have hne : okN (el ++ [(o1.e,o1.h)]) = okN el:=by
      rw [okN_snoc,if_neg (by rcases a5 hef with y | y <;> (dsimp only;omega))];rfl
     refine ⟨by rw [a3,hne];exact he.nx,by rw [a2,hne];exact he.fr,fun p e h hp=>?_⟩
     rcases snoc_get hp with ⟨q1,q2⟩ | ⟨rfl,q2⟩
     · rw [take_snoc (by omega)];exact old p e h q1
     · cases q2
       rw [take_snoc (Nat.le_refl _),List.take_length]
       refine ⟨fun e0=>by rcases a5 hef with y | y <;> omega,fun e10=>?_,by rcases a5 hef with y | y <;> omega⟩
       rcases a5 hef with y | ⟨_,y⟩
       · omega
       · have:=he.fr;rw [y] at this;simpa using this
   · rw [if_neg hef]
     exact ⟨by rw [a3];exact he.nx,by rw [a2];exact he.fr,old⟩
 · rw [if_pos b1,b2,b3,hs]
   obtain ⟨t1,t2,t3,t4,t5⟩:=touches_same o.th [3] s.m
   have hn:=h.n12
   have hkb:=h.kb
   have hwd:=h.wd i hi
   have hwl : i + 1 < (s.touch o.th [3]).m.words.length:=by show i + 1 < (s.m.touches o.th [3]).words.length;rw [t1,h.nw];omega
   have ew : ∀ j,(s.touch o.th [3]).m.word j = s.m.word j:=fun j=>by unfold Mem.word;show ((s.m.touches o.th [3]).words[j]?).getD 0 = _;rw [t1]
   have est : ∀ j,(s.touch o.th [3]).st j = s.st j ∧ (s.touch o.th [3]).gn j = s.gn j:=fun j=>by unfold Sto.st Sto.gn;rw [ew];exact ⟨rfl,rfl⟩
   have hw:=alloc_word hwl o.th o.t l (by rw [ew];exact hwd.1)
   have hsl : ∀ j,((s.touch o.th [3]).alloc1 o.th o.t l i).slot j = if j = i then ⟨0,0,o.t,s.next⟩ else s.slot j:=alloc1_slot (s:=s.touch o.th [3]) (by show i < s.slots.length;rw [h.ns];exact hi)
   have hok : okN (el ++ [((0 : Int),64 * s.gn i + (i : Int))]) = okN el + 1:=by rw [okN_snoc,if_pos rfl]
   refine ⟨?_,?_,fun p e h' hp=>?_⟩
   · show s.next + 1 = _
     rw [hok,he.nx];push_cast;omega
   · show l.length + _ = f0
     have:=he.fr
     rw [hid] at this
     simp at this
     rw [hok];omega
   · rcases snoc_get hp with ⟨q1,q2⟩ | ⟨rfl,q2⟩
     · rw [take_snoc (by omega)]
       obtain ⟨c1,c2,c3⟩:=he.mem p e h' q1
       refine ⟨fun e0=>?_,c2,c3⟩
       obtain ⟨x,d1,d2,d3,d4,d5⟩:=c1 e0
       have hne : x ≠ i:=fun e=>d4 (by rw [e];exact h1)
       refine ⟨x,d1,d2,?_,?_,?_⟩
       · rw [(hw x).1,(est x).2];exact d3
       · rw [(hw x).2,if_neg hne,(est x).1];exact d4
       · rw [hsl,if_neg hne];exact d5
     · cases q2
       rw [take_snoc (Nat.le_refl _),List.take_length]
       refine ⟨fun _=>⟨i,hi,?_,?_,?_,?_⟩,fun y=>(by cases y),.inl rfl⟩
       · exact (slotH_mk ⟨by have:=hwd.1;unfold Sto.gn;omega,by have:=hwd.2;omega⟩ (by omega)).1
       · rw [(hw i).1,(est i).2]
         exact (slotH_mk ⟨by have:=hwd.1;unfold Sto.gn;omega,by have:=hwd.2;omega⟩ (by omega)).2
       · rw [(hw i).2,if_pos rfl];omega
       · rw [hsl,if_pos rfl];exact he.nx
structure PI (n len : Nat) (T v n0 : Int) (f0 : Nat) (y : PS) : Prop where
 ci : ∃ S A,CI 4 n (241 + y.i) y.s y.cs S A
 li : LI 4 y.s y.cs T v
 ef : EF n n0 f0 y.s y.el
 nx : y.nx ≤ len
 opn : y.opn = (cnt4 fun j=>oneO (y.cs j) : Nat)
 rl : y.res.length = len
 mn : ∀ j,j < 4 → y.cs j ≠ none → y.mine j < y.nx
 inj : ∀ j k,j < 4 → k < 4 → y.cs j ≠ none → y.cs k ≠ none → y.mine j = y.mine k → j = k
 ll : y.ord.length = y.el.length
 lk : ∀ (p k : Nat),y.ord[p]? = some k → k < y.nx ∧ ((∃ (j : Nat) (o : IOp),j < 4 ∧ y.cs j = some o ∧ y.mine j = k ∧ o.pc.late = true ∧ y.el[p]? = some (o.e,o.h)) ∨ ((∀ j,j < 4 → y.cs j ≠ none → y.mine j ≠ k) ∧ y.res[k]? = y.el[p]?))
 cnt : y.ord.length + cnt4 (fun j=>earlyO (y.cs j)) = y.nx
theorem LI.new {m : Nat} {s : Sto} {cs : Nat → Option IOp} {T v : Int} (h : LI m s cs T v) {t : Nat} (ht : cs t = none) (x : Int) : LI m s (upd cs t (some (.new t x))) T v:=by
 have hno : ∀ i,¬ HdO (some (IOp.new t x)) i:=fun i y=>by
  obtain ⟨p,hp,hh⟩:=y
  cases hp
  exact hd_none rfl (by simp [IOp.new]) (by simp [IOp.new]) hh
 have hn : ∀ i,¬ HdO (cs t) i:=fun i y=>by obtain ⟨p,hp,_⟩:=y;rw [ht] at hp;cases hp
 refine ⟨h.ts,fun i j hi hj hd=>?_,fun i hi hd=>?_,fun j o hj ho=>?_,fun j o i hj ho hh=>?_,h.viol⟩
 · by_cases e : j = t
   · subst e;rw [upd_same] at hd;exact absurd hd (hno i)
   · rw [upd_ne _ _ _ _ e] at hd;exact h.h1 i j hi hj hd
 · obtain ⟨j,hj,hh⟩:=h.h2 i hi hd
   refine ⟨j,hj,?_⟩
   rw [upd_ne _ _ _ _ (fun e=>by subst e;exact hn i hh)];exact hh
 · by_cases e : j = t
   · subst e;rw [upd_same] at ho;cases ho;exact trivial
   · rw [upd_ne _ _ _ _ e] at ho;exact h.reg j o hj ho
 · by_cases e : j = t
   · subst e;rw [upd_same] at ho;cases ho;cases hh.1
   · rw [upd_ne _ _ _ _ e] at ho;exact h.slot j o i hj ho hh
theorem PI.mk' {n len : Nat} {T v n0 : Int} {f0 : Nat} {y : PS} (h : PI n len T v n0 f0 y) {t : Nat} (htm : t < 4) (ht : y.cs t = none) (hx : y.nx < len) (x : Int) : PI n len T v n0 f0 { y.new t with cs:=upd y.cs t (some (.new t x)) }:=by
 obtain ⟨S,A,hci⟩:=h.ci
 have hc : ∀ {j},j ≠ t → upd y.cs t (some (IOp.new t x)) j = y.cs j:=fun e=>upd_ne _ _ _ _ e
 have hmi : ∀ {j},j ≠ t → upd y.mine t y.nx j = y.mine j:=fun e=>upd_ne _ _ _ _ e
 refine ⟨⟨S,A,hci.new ht x⟩,h.li.new ht x,h.ef,hx,?_,h.rl,fun j hj hn=>?_,fun j k hj hk hjn hkn e=>?_,h.ll,fun p k hp=>?_,?_⟩
 · show y.opn + 1 = _
   rw [upd_comp oneO]
   have:=cnt4_upd (fun j=>oneO (y.cs j)) htm (oneO (some (IOp.new t x)))
   rw [ht] at this
   rw [h.opn]
   have e1 : oneO (some (IOp.new t x)) = 1:=rfl
   have e0 : oneO (none : Option IOp) = 0:=rfl
   omega
 · show upd y.mine t y.nx j < y.nx + 1
   by_cases e : j = t
   · subst e;rw [upd_same];omega
   · rw [hmi e]
     have:=h.mn j hj (by rw [← hc e];exact hn)
     omega
 · show j = k
   have e : upd y.mine t y.nx j = upd y.mine t y.nx k:=e
   by_cases e1 : j = t
   · by_cases e2 : k = t
     · rw [e1,e2]
     · subst e1
       rw [upd_same,hmi e2] at e
       have:=h.mn k hk (by rw [← hc e2];exact hkn)
       omega
   · by_cases e2 : k = t
     · subst e2
       rw [upd_same,hmi e1] at e
       have:=h.mn j hj (by rw [← hc e1];exact hjn)
       omega
     · rw [hmi e1,hmi e2] at e
       exact h.inj j k hj hk (by rw [← hc e1];exact hjn) (by rw [← hc e2];exact hkn) e
 · obtain ⟨a1,a2⟩:=h.lk p k hp
   refine ⟨by show k < y.nx + 1;omega,?_⟩
   rcases a2 with ⟨j,o,hj,ho,b1,b2,b3⟩ | ⟨b1,b2⟩
   · have e : j ≠ t:=fun e=>by subst e;rw [ht] at ho;cases ho
     exact .inl ⟨j,o,hj,(hc e).trans ho,(hmi e).trans b1,b2,b3⟩
   · refine .inr ⟨fun j hj hn=>?_,b2⟩
     show upd y.mine t y.nx j ≠ k
     by_cases e : j = t
     · subst e;rw [upd_same];omega
     · rw [hmi e];exact b1 j hj (by rw [← hc e];exact hn)
 · show y.ord.length + cnt4 (fun j=>earlyO (upd y.cs t (some (IOp.new t x)) j)) = y.nx + 1
   rw [upd_comp earlyO]
   have:=cnt4_upd (fun j=>earlyO (y.cs j)) htm (earlyO (some (IOp.new t x)))
   rw [ht] at this
   have:=h.cnt
   have e1 : earlyO (some (IOp.new t x)) = 1:=rfl
   have e0 : earlyO (none : Option IOp) = 0:=rfl
   omega
theorem done_left {o : IOp} : o.left = none ↔ o.done = true:=by
 unfold IOp.left IOp.done
 cases o.pc <;> simp
theorem PI.go {n len : Nat} {T v n0 : Int} {f0 : Nat} {y : PS} (h : PI n len T v n0 f0 y) {t : Nat} (htm : t < 4) {o : IOp} (ht : y.cs t = some o) (hi : y.i ≤ 10000) : PI n len T v n0 f0 (y.go t o):=by
 obtain ⟨S,A,hci⟩:=h.ci
 obtain ⟨hok,hth⟩:=hci.ops t o htm ht
 have hli:=h.li.step hci (by omega) htm ht
 obtain ⟨S',A',hci'⟩:=hci.step (by omega) htm ht
 have hef:=h.ef.step hci.sb hok
 have hse:=step_eff (s:=y.s) hok
 have hrun : y.cs t ≠ none:=by rw [ht];simp
 have hmt:=h.mn t htm hrun
 unfold PS.go
 generalize (o.step y.s).2 = s1 at *
 generalize (o.step y.s).1 = o1 at *
 have hc : ∀ {j},j ≠ t → upd y.cs t o1.left j = y.cs j:=fun e=>upd_ne _ _ _ _ e
 have hct : upd y.cs t o1.left t = o1.left:=upd_same _ _ _
 refine ⟨⟨S',A',hci'⟩,hli,hef,h.nx,?_,?_,fun j hj hn=>?_,fun j k hj hk hjn hkn e=>?_,?_,fun p k hp=>?_,?_⟩
 · dsimp only
   rw [upd_comp oneO,oneO_left]
   have h1:=cnt4_upd (fun j=>oneO (y.cs j)) htm (if o1.done = true then 0 else 1)
   rw [ht] at h1
   have e1 : oneO (some o) = 1:=rfl
   have h2:=h.opn
   by_cases hd : o1.done = true
   · simp only [if_pos hd] at h1 ⊢;omega
   · simp only [if_neg hd] at h1 ⊢;omega
 · dsimp only
   split
   · rw [List.length_set];exact h.rl
   · exact h.rl
 · by_cases e : j = t
   · subst e;exact hmt
   · exact h.mn j hj (by rw [← hc e];exact hn)
 · refine h.inj j k hj hk ?_ ?_ e
   · by_cases e1 : j = t
     · rw [e1];exact hrun
     · rw [← hc e1];exact hjn
   · by_cases e1 : k = t
     · rw [e1];exact hrun
     · rw [← hc e1];exact hkn
 · dsimp only
   split
   · rw [List.length_append,List.length_append,h.ll];rfl
   · exact h.ll
 · dsimp only at hp ⊢
   have old : y.ord[p]? = some k → ∀ el' : List (Int × Int),el'[p]? = y.el[p]? → k < y.nx ∧ ((∃ j o,j < 4 ∧ upd y.cs t o1.left j = some o ∧ y.mine j = k ∧ o.pc.late = true ∧ el'[p]? = some (o.e,o.h)) ∨ ((∀ j,j < 4 → upd y.cs t o1.left j ≠ none → y.mine j ≠ k) ∧ (if o1.done = true then y.res.set (y.mine t) (o1.e,o1.h) else y.res)[k]? = el'[p]?)):=by
    intro hp el' he
    obtain ⟨a1,a2⟩:=h.lk p k hp
    refine ⟨a1,?_⟩
    rw [he]
    rcases a2 with ⟨j,q,hj,hq,b1,b2,b3⟩ | ⟨b1,b2⟩
    · by_cases e : j = t
      · subst e
        rw [ht] at hq
        cases hq
        obtain ⟨c1,c2,c3⟩:=hse.keep b2
        by_cases hd : o1.done = true
        · right
          rw [if_pos hd]
          refine ⟨fun i hi hn e=>?_,?_⟩
          · have e2 : i ≠ j:=fun e2=>by subst e2;rw [hct,done_left.2 hd] at hn;exact hn rfl
            exact e2 (h.inj i j hi hj (by rw [← hc e2];exact hn) hrun (e.trans b1.symm))
          · rw [← b1,List.getElem?_set_self (by rw [h.rl];have:=h.nx;omega),b3,c1,c2]
        · left
          refine ⟨j,o1,hj,?_,b1,c3,by rw [b3,c1,c2]⟩
          rw [hct]
          cases hl : o1.left with
          | none=>exact absurd (done_left.1 hl) hd
          | some z=>rw [(left_some hl).1]
      · exact .inl ⟨j,q,hj,(hc e).trans hq,b1,b2,b3⟩
    · right
      refine ⟨fun i hi hn=>?_,?_⟩
      · by_cases e : i = t
        · subst e;exact b1 i hi hrun
        · exact b1 i hi (by rw [← hc e];exact hn)
      · have hne:=b1 t htm hrun
        split
        · rw [List.getElem?_set_ne hne];exact b2
        · exact b2
   by_cases hf : o1.eff = true
   · rw [if_pos hf] at hp ⊢
     rcases snoc_get hp with ⟨q1,q2⟩ | ⟨q1,q2⟩
     · exact old q1 _ (List.getElem?_append_left (by rw [← h.ll];exact q2))
     · subst q2
       refine ⟨hmt,?_⟩
       have hel : (y.el ++ [(o1.e,o1.h)])[p]? = some (o1.e,o1.h):=by rw [q1,h.ll,List.getElem?_append_right (Nat.le_refl _),Nat.sub_self];rfl
       rw [hel]
       by_cases hd : o1.done = true
       · right
         rw [if_pos hd]
         refine ⟨fun i hi hn e=>?_,?_⟩
         · have e2 : i ≠ t:=fun e2=>by subst e2;rw [hct,done_left.2 hd] at hn;exact hn rfl
           exact e2 (h.inj i t hi htm (by rw [← hc e2];exact hn) hrun e)
         · rw [List.getElem?_set_self (by rw [h.rl];have:=h.nx;omega)]
       · left
         refine ⟨t,o1,htm,?_,rfl,?_,rfl⟩
         · rw [hct]
           cases hl : o1.left with
           | none=>exact absurd (done_left.1 hl) hd
           | some z=>rw [(left_some hl).1]
         · have:=hse.eff
           rw [hf] at this
           simp at this
           exact this.2
   · rw [if_neg hf] at hp ⊢
     exact old hp _ rfl
 · dsimp only
   rw [upd_comp earlyO,earlyO_left]
   have h1:=cnt4_upd (fun j=>earlyO (y.cs j)) htm (if o1.pc.late = true then 0 else 1)
   rw [ht] at h1
   have h2:=h.cnt
   have h3:=hse.eff
   have h4:=hse.keep
   cases hl : o.pc.late with
   | true=>
    have e1 : earlyO (some o) = 0:=by simp [earlyO,hl]
    rw [(h4 hl).2.2] at h3 h1 ⊢
    rw [hl] at h3
    rw [if_neg (by rw [h3];simp)]
    rw [if_pos rfl] at h1 ⊢
    omega
   | false=>
    have e1 : earlyO (some o) = 1:=by simp [earlyO,hl]
    rw [hl] at h3
    cases hl1 : o1.pc.late with
    | true=>
     rw [hl1] at h3 h1
     rw [if_pos (by rw [h3];rfl),if_pos rfl,List.length_append,List.length_singleton]
     rw [if_pos rfl] at h1
     omega
    | false=>
     rw [hl1] at h3 h1
     rw [if_neg (by rw [h3];simp),if_neg (by simp)]
     rw [if_neg (by simp)] at h1
     omega
theorem PS.rnd_new (y : PS) (times : List Int) {t : Nat} (ht : y.cs t = none) (hx : y.nx < times.length) : y.rnd times t = PS.go { y.new t with cs:=upd y.cs t (some (.new t (timeI (times.getD y.nx 0)))) } t (.new t (timeI (times.getD y.nx 0))):=by
 unfold PS.rnd
 rw [ht]
 dsimp only
 rw [if_pos hx]
 unfold PS.go PS.new
 dsimp only
 rw [upd_upd]
theorem PI.rnd {n : Nat} {times : List Int} {T v n0 : Int} {f0 : Nat} {y : PS} (h : PI n times.length T v n0 f0 y) {t : Nat} (htm : t < 4) (hi : y.i ≤ 10000) : PI n times.length T v n0 f0 (y.rnd times t):=by
 cases ht : y.cs t with
 | some o=>
  have : y.rnd times t = y.go t o:=by unfold PS.rnd;rw [ht]
  rw [this]
  exact h.go htm ht hi
 | none=>
  by_cases hx : y.nx < times.length
  · rw [PS.rnd_new y times ht hx]
    exact (h.mk' htm ht hx _).go htm (upd_same ..) hi
  · have : y.rnd times t = { y with i:=y.i + 1 }:=by unfold PS.rnd;rw [ht];dsimp only;rw [if_neg hx]
    rw [this]
    obtain ⟨S,A,hci⟩:=h.ci
    exact ⟨⟨S,A,hci.sb.mono (by show 241 + y.i ≤ 241 + (y.i + 1);omega) (by show 241 + (y.i + 1) ≤ 20000;omega),hci.thr,hci.ops,hci.hnd,hci.ex⟩,h.li,h.ef,h.nx,h.opn,h.rl,h.mn,h.inj,h.ll,h.lk,h.cnt⟩
def PS.phi (len : Nat) (y : PS) : Nat:=cnt4 (fun j=>remO (y.cs j)) + 9 * (len - y.nx)
def PS.can (len : Nat) (y : PS) (j : Nat) : Prop:=
 (y.cs j = none ∧ y.nx < len) ∨ ∃ o,y.cs j = some o ∧ (o.pc.mx = none ∨ ∃ i q,o.pc.mx = some (i,q) ∧ (y.s.m.held i).1 = false)
theorem shp_rem {p : PC} {hd : Option (List Int × Nat)} (h : Shp p hd) : p = .undo ∨ 1 ≤ p.rem:=by cases h <;> simp [PC.rem]
theorem hd_mx {o : IOp} (h : Shp o.pc o.hd) {i k : Nat} {q : PC} (hh : o.Hd i) (hm : o.pc.mx = some (k,q)) : i < k ∧ k < 4:=by
 obtain ⟨th,x,pc,hd,hh',e,ok,ef,bl⟩:=o
 dsimp only at h hm
 cases h <;> simp [PC.mx] at hm <;> obtain ⟨rfl,rfl⟩:=hm <;> (rcases hh with y | ⟨_,y | y⟩ <;> first | (simp [hdL] at y;try omega) | cases y)
theorem PI.none_can {n len : Nat} {T v n0 : Int} {f0 : Nat} {y : PS} (h : PI n len T v n0 f0 y) (hc : ∀ j,j < 4 → ¬ y.can len j) : ∀ k i,i + k = 4 → ¬ (y.s.m.held i).1 = true:=by
 obtain ⟨S,A,hci⟩:=h.ci
 intro k
 induction k using Nat.strongRecOn with
 | _ k ih=>
  intro i hik hh
  by_cases hi : i < 4
  · obtain ⟨j,hj,o,ho,hd⟩:=h.li.h2 i hi hh
    cases hm : o.pc.mx with
    | none=>exact hc j hj (.inr ⟨o,ho,.inl hm⟩)
    | some z=>
     obtain ⟨i',q⟩:=z
     obtain ⟨h1,h2⟩:=hd_mx (hci.ops j o hj ho).1.shp hd hm
     cases hb : (y.s.m.held i').1 with
     | false=>exact hc j hj (.inr ⟨o,ho,.inr ⟨i',q,hm,hb⟩⟩)
     | true=>exact ih (4 - i') (by omega) i' (by omega) hb
  · have : i = 4:=by omega
    subst this
    have:=hci.sb.nm
    unfold Mem.held at hh
    rw [List.getElem?_eq_none (by rw [this];exact Nat.le_refl _)] at hh
    cases hh
theorem PI.rem1 {n len : Nat} {T v n0 : Int} {f0 : Nat} {y : PS} (h : PI n len T v n0 f0 y) {j : Nat} (hj : j < 4) {o : IOp} (ho : y.cs j = some o) : 1 ≤ remO (y.cs j):=by
 obtain ⟨S,A,hci⟩:=h.ci
 have hr:=h.li.reg j o hj ho
 rw [ho]
 rcases shp_rem (hci.ops j o hj ho).1.shp with e | e
 · unfold Reg at hr;rw [e] at hr;exact hr.elim
 · exact e
theorem cnt4_0 {f : Nat → Nat} (h : cnt4 f = 0) : ∀ j,j < 4 → f j = 0:=fun j hj=>by
 unfold cnt4 at h
 rcases (show j = 0 ∨ j = 1 ∨ j = 2 ∨ j = 3 by omega) with rfl | rfl | rfl | rfl <;> omega
theorem PI.ex_can {n len : Nat} {T v n0 : Int} {f0 : Nat} {y : PS} (h : PI n len T v n0 f0 y) (hp : 0 < y.phi len) : ∃ j,j < 4 ∧ y.can len j:=by
 refine Classical.byContradiction fun hno=>?_
 have hc : ∀ j,j < 4 → ¬ y.can len j:=fun j hj hh=>hno ⟨j,hj,hh⟩
 have hf:=h.none_can hc
 have hn : ∀ j,j < 4 → y.cs j = none:=fun j hj=>by
  cases ho : y.cs j with
  | none=>rfl
  | some o=>
   exfalso
   cases hm : o.pc.mx with
   | none=>exact hc j hj (.inr ⟨o,ho,.inl hm⟩)
   | some z=>
    have hlt : z.1 < 4:=by rcases pc_mx (i:=z.1) (n:=z.2) hm with ⟨_,e,_⟩ | ⟨_,e,_⟩ | ⟨_,e,_⟩ | ⟨_,e,_⟩ <;> omega
    refine hc j hj (.inr ⟨o,ho,.inr ⟨z.1,z.2,hm,?_⟩⟩)
    have:=hf (4 - z.1) z.1 (by omega)
    simpa using this
 have h0 : cnt4 (fun j=>remO (y.cs j)) = 0:=by
  unfold cnt4
  dsimp only
  rw [hn 0 (by omega),hn 1 (by omega),hn 2 (by omega),hn 3 (by omega)];rfl
 have h1:=hc 0 (by omega)
 have : ¬ y.nx < len:=fun e=>h1 (.inl ⟨hn 0 (by omega),e⟩)
 unfold PS.phi at hp
 omega
theorem PI.prog {n : Nat} {times : List Int} {T v n0 : Int} {f0 : Nat} {y : PS} (h : PI n times.length T v n0 f0 y) {t : Nat} (htm : t < 4) :
 (y.rnd times t).phi times.length < y.phi times.length ∨ ((y.rnd times t).phi times.length = y.phi times.length ∧ ¬ y.can times.length t ∧ ∀ j,y.can times.length j → (y.rnd times t).can times.length j):=by
 obtain ⟨S,A,hci⟩:=h.ci
 have hw : y.s.m.word 0 = T:=by rw [hci.sb.top,h.li.ts]
 cases ht : y.cs t with
 | none=>
  by_cases hx : y.nx < times.length
  · left
    have e : y.rnd times t = (y.new t).go t (.new t (timeI (times.getD y.nx 0))):=by unfold PS.rnd;rw [ht];dsimp only;rw [if_pos hx]
    rw [e]
    obtain ⟨hr,_⟩:=step_rem (s:=y.s) (IOk.new (n:=n) (A:=A) (th:=(t : Int)) (by omega) (timeI (times.getD y.nx 0))) (T:=T) trivial hw
    have hr:=hr rfl
    unfold PS.phi PS.go PS.new
    dsimp only
    rw [upd_comp remO,remO_left]
    have:=cnt4_upd (fun j=>remO (y.cs j)) htm ((IOp.new t (timeI (times.getD y.nx 0))).step y.s).1.pc.rem
    rw [ht] at this
    have e0 : remO (none : Option IOp) = 0:=rfl
    have e9 : (IOp.new t (timeI (times.getD y.nx 0))).pc.rem = 9:=rfl
    omega
  · right
    have e : y.rnd times t = { y with i:=y.i + 1 }:=by unfold PS.rnd;rw [ht];dsimp only;rw [if_neg hx]
    rw [e]
    refine ⟨rfl,fun hh=>?_,fun j hh=>hh⟩
    rcases hh with ⟨_,h2⟩ | ⟨o,ho,_⟩
    · exact hx h2
    · rw [ht] at ho;cases ho
 | some o=>
  have e : y.rnd times t = y.go t o:=by unfold PS.rnd;rw [ht]
  rw [e]
  obtain ⟨hok,hth⟩:=hci.ops t o htm ht
  obtain ⟨r1,r2⟩:=step_rem (s:=y.s) hok (h.li.reg t o htm ht) hw
  have hc:=cnt4_upd (fun j=>remO (y.cs j)) htm (o.step y.s).1.pc.rem
  rw [ht] at hc
  have eo : remO (some o) = o.pc.rem:=rfl
  have hphi : (y.go t o).phi times.length + o.pc.rem = y.phi times.length + (o.step y.s).1.pc.rem:=by
   unfold PS.phi PS.go
   dsimp only
   rw [upd_comp remO,remO_left]
   omega
  have less : (o.step y.s).1.pc.rem < o.pc.rem → (y.go t o).phi times.length < y.phi times.length:=fun hl=>by omega
  cases hm : o.pc.mx with
  | none=>exact .inl (less (r1 hm))
  | some z=>
   obtain ⟨i,q⟩:=z
   obtain ⟨b1,b2⟩:=r2 i q hm
   cases hb : (y.s.m.held i).1 with
   | false=>exact .inl (less (b1 hb))
   | true=>
    obtain ⟨c1,c2,c3⟩:=b2 hb
    right
    refine ⟨by rw [c1] at hphi;omega,fun hh=>?_,fun j hh=>?_⟩
    · rcases hh with ⟨h1,_⟩ | ⟨p,hp,h1 | ⟨i',q',h1,h2⟩⟩
      · rw [ht] at h1;cases h1
      · rw [ht] at hp;cases hp;rw [hm] at h1;cases h1
      · rw [ht] at hp;cases hp;rw [hm] at h1;cases h1;rw [hb] at h2;cases h2
    · by_cases ej : j = t
      · subst ej
        exfalso
        rcases hh with ⟨h1,_⟩ | ⟨p,hp,h1 | ⟨i',q',h1,h2⟩⟩
        · rw [ht] at h1;cases h1
        · rw [ht] at hp;cases hp;rw [hm] at h1;cases h1
        · rw [ht] at hp;cases hp;rw [hm] at h1;cases h1;rw [hb] at h2;cases h2
      · rcases hh with ⟨h1,h2⟩ | ⟨p,hp,hh⟩
        · exact .inl ⟨(upd_ne _ _ _ _ ej).trans h1,h2⟩
        · refine .inr ⟨p,(upd_ne _ _ _ _ ej).trans hp,?_⟩
          rcases hh with h1 | ⟨i',q',h1,h2⟩
          · exact .inl h1
          · exact .inr ⟨i',q',h1,by show ((o.step y.s).2.m.held i').1 = false;rw [c3];exact h2⟩
def PS.run (times : List Int) (tp : Nat → Nat) (y : PS) : Nat → PS
 | 0=>y
 | i + 1=>(PS.run times tp y i).rnd times (tp i)
theorem rnd_i (times : List Int) (t : Nat) (y : PS) : (y.rnd times t).i = y.i + 1:=by
 unfold PS.rnd
 split
 · rfl
 · split <;> rfl
theorem run_i (times : List Int) (tp : Nat → Nat) (y : PS) (i : Nat) : (PS.run times tp y i).i = y.i + i:=by
 induction i with
 | zero=>rfl
 | succ i ih=>show ((PS.run times tp y i).rnd times (tp i)).i = _;rw [rnd_i,ih];omega
theorem PI.run {n : Nat} {times : List Int} {T v n0 : Int} {f0 : Nat} {y : PS} (h : PI n times.length T v n0 f0 y) {tp : Nat → Nat} (htp : ∀ i,tp i < 4) (hy : y.i = 0) : ∀ i,i ≤ 10000 → PI n times.length T v n0 f0 (PS.run times tp y i):=fun i=>by
 induction i with
 | zero=>exact fun _=>h
 | succ i ih=>exact fun hi=>(ih (by omega)).rnd (htp i) (by rw [run_i,hy];omega)
theorem PI.cycle {n : Nat} {times : List Int} {T v n0 : Int} {f0 : Nat} {y : PS} (h : PI n times.length T v n0 f0 y) {tp : Nat → Nat} (htp : ∀ i,tp i < 4) (hy : y.i = 0) {i : Nat} (hi : i + 4 ≤ 10000) (hall : ∀ j,j < 4 → ∃ k,k < 4 ∧ tp (i + k) = j) :
 (PS.run times tp y (i + 4)).phi times.length ≤ (PS.run times tp y i).phi times.length - 1:=by
 have hp : ∀ k,k ≤ 4 → (PS.run times tp y (i + k)).phi times.length < (PS.run times tp y i).phi times.length ∨ ((PS.run times tp y (i + k)).phi times.length = (PS.run times tp y i).phi times.length ∧ (∀ k',k' < k → ¬ (PS.run times tp y i).can times.length (tp (i + k'))) ∧ ∀ j,(PS.run times tp y i).can times.length j → (PS.run times tp y (i + k)).can times.length j):=by
  intro k
  induction k with
  | zero=>exact fun _=>.inr ⟨rfl,fun k' hk'=>absurd hk' (Nat.not_lt_zero _),fun j hj=>hj⟩
  | succ k ih=>
   intro hk
   have hpi:=h.run htp hy (i + k) (by omega)
   have hpr:=hpi.prog (htp (i + k))
   have e : PS.run times tp y (i + (k + 1)) = (PS.run times tp y (i + k)).rnd times (tp (i + k)):=rfl
   rw [e]
   rcases ih (by omega) with a | ⟨a1,a2,a3⟩
   · left
     rcases hpr with b | ⟨b,_⟩ <;> omega
   · rcases hpr with b | ⟨b1,b2,b3⟩
     · left;omega
     · refine .inr ⟨by omega,fun k' hk' hh=>?_,fun j hj=>b3 j (a3 j hj)⟩
       by_cases ek : k' = k
       · subst ek;exact b2 (a3 _ hh)
       · exact a2 k' (by omega) hh
 by_cases h0 : 0 < (PS.run times tp y i).phi times.length
 · obtain ⟨j,hj,hc⟩:=(h.run htp hy i (by omega)).ex_can h0
   obtain ⟨k,hk,hkj⟩:=hall j hj
   rcases hp 4 (Nat.le_refl _) with a | ⟨_,a,_⟩
   · omega
   · exact absurd (by rw [hkj];exact hc) (a k hk)
 · rcases hp 4 (Nat.le_refl _) with a | ⟨a,_⟩ <;> omega
theorem PI.end {n : Nat} {times : List Int} {T v n0 : Int} {f0 : Nat} {y : PS} (h : PI n times.length T v n0 f0 y) {tp : Nat → Nat} (htp : ∀ i,tp i < 4) (hy : y.i = 0) {lp : Nat} (hrr : ∀ i,lp ≤ i → tp i = i % 4) (hl : lp + 40 * times.length + 40 ≤ 10000) (hphi : y.phi times.length ≤ 9 * times.length) :
 (PS.run times tp y (lp + 40 * times.length + 40)).phi times.length = 0:=by
 have mono : ∀ i,i ≤ 10000 → (PS.run times tp y i).phi times.length ≤ 9 * times.length:=fun i=>by
  induction i with
  | zero=>exact fun _=>hphi
  | succ i ih=>
   intro hi
   have:=ih (by omega)
   have hpr:=(h.run htp hy i (by omega)).prog (htp i)
   have e : PS.run times tp y (i + 1) = (PS.run times tp y i).rnd times (tp i):=rfl
   rw [e]
   rcases hpr with b | ⟨b,_⟩ <;> omega
 have cyc : ∀ c,lp + 4 * c ≤ 10000 → (PS.run times tp y (lp + 4 * c)).phi times.length ≤ 9 * times.length - c:=fun c=>by
  induction c with
  | zero=>intro _;exact mono lp (by omega)
  | succ c ih=>
   intro hc
   have h1:=ih (by omega)
   have h2:=h.cycle htp hy (i:=lp + 4 * c) (by omega) (fun j hj=>by
    refine ⟨(j + 4 - (lp + 4 * c) % 4) % 4,by omega,?_⟩
    rw [hrr _ (by omega)];omega)
   rw [show lp + 4 * (c + 1) = lp + 4 * c + 4 by omega]
   omega
 have:=cyc (10 * times.length + 10) (by omega)
 rw [show lp + 40 * times.length + 40 = lp + 4 * (10 * times.length + 10) by omega]
 omega
theorem PI.fin {n len : Nat} {T v n0 : Int} {f0 : Nat} {y : PS} (h : PI n len T v n0 f0 y) (hp : y.phi len = 0) :
 (∀ j,j < 4 → y.cs j = none) ∧ y.opn = 0 ∧ y.nx = len ∧ y.ord.length = len ∧ y.el.length = len ∧ ∀ p k : Nat,y.ord[p]? = some k → y.res[k]? = y.el[p]?:=by
 unfold PS.phi at hp
 have hn : ∀ j,j < 4 → y.cs j = none:=fun j hj=>by
  have h0:=cnt4_0 (f:=fun j=>remO (y.cs j)) (by omega) j hj
  cases ho : y.cs j with
  | none=>rfl
  | some o=>have:=h.rem1 hj ho;omega
 have hx:=h.nx
 have hnx : y.nx = len:=by omega
 have e1 : cnt4 (fun j=>oneO (y.cs j)) = 0:=by unfold cnt4;dsimp only;rw [hn 0 (by omega),hn 1 (by omega),hn 2 (by omega),hn 3 (by omega)];rfl
 have e2 : cnt4 (fun j=>earlyO (y.cs j)) = 0:=by unfold cnt4;dsimp only;rw [hn 0 (by omega),hn 1 (by omega),hn 2 (by omega),hn 3 (by omega)];rfl
 have h1:=h.opn
 have h2:=h.cnt
 refine ⟨hn,by omega,hnx,by omega,by rw [← h.ll];omega,fun p k hk=>?_⟩
 rcases (h.lk p k hk).2 with ⟨j,o,hj,ho,_⟩ | ⟨_,a⟩
 · rw [hn j hj] at ho;cases ho
 · exact a
theorem PI.free {n len : Nat} {T v n0 : Int} {f0 : Nat} {y : PS} (h : PI n len T v n0 f0 y) {t : Nat} (ht : y.cs t = none) {i : Nat} (hi : i < 4) (hh : (y.s.m.held i).1 = true) : (y.s.m.held i).2 ≠ (t : Int):=by
 obtain ⟨j,hj,o,ho,hd⟩:=h.li.h2 i hi hh
 have:=h.li.h1 i j hi hj ⟨o,ho,hd⟩
 rw [this]
 intro e
 have e : j = t:=by have:=e;dsimp only at this;omega
 subst e
 rw [ht] at ho;cases ho
end Go.Proofs.YtcffiehcdadimaaGreat.Abs
