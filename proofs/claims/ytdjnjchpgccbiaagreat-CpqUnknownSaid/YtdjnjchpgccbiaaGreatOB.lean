/- Calls of all kinds against the sequential model: the model that belongs to a store and its running calls. -/
import Derived.Test.YtdjnjchpgccbiaaGreatOA
import Derived.Test.YtdjnjchpgccbiaaGreatFA
namespace Go.Proofs.YtdjnjchpgccbiaaGreat.Abs
set_option linter.unusedSimpArgs false
set_option linter.unusedVariables false
theorem ZbH {α : Type} {r : α → α → Prop} : ∀ {l1 l2 : List α},l1.Perm l2 → l1.Pairwise r → l2.Pairwise r → (∀ a ∈ l1,∀ b ∈ l1,r a b → r b a → a = b) → l1 = l2
 | [],l2,h,_,_,_=>(List.nil_perm.1 h).symm
 | a :: l1,[],h,_,_,_=>absurd h.length_eq (by simp)
 | a :: l1,b :: l2,h,h1,h2,ha=>by
  have e : a = b:=by
   have m1 : a ∈ b :: l2:=h.mem_iff.1 List.mem_cons_self
   have m2 : b ∈ a :: l1:=h.mem_iff.2 List.mem_cons_self
   rcases List.mem_cons.1 m1 with e | m1
   · exact e
   rcases List.mem_cons.1 m2 with e | m2
   · exact e.symm
   exact ha a List.mem_cons_self b (List.mem_cons_of_mem _ m2) ((List.pairwise_cons.1 h1).1 b m2) ((List.pairwise_cons.1 h2).1 a m1)
  subst e
  rw [ZbH ((List.perm_cons a).1 h) (List.pairwise_cons.1 h1).2 (List.pairwise_cons.1 h2).2 fun x hx y hy=>ha x (List.mem_cons_of_mem _ hx) y (List.mem_cons_of_mem _ hy)]
theorem ZbG {α : Type} [DecidableEq α] {l1 l2 : List α} (h1 : l1.Nodup) (h2 : l2.Nodup) (h : ∀ a,a ∈ l1 ↔ a ∈ l2) : l1.Perm l2:=(List.perm_ext_iff_of_nodup h1 h2).2 h
theorem Zpy (x y : Item) : Bf x y ↔ x.time < y.time ∨ (x.time = y.time ∧ x.seq < y.seq):=by
 unfold Bf Zr or2 ZcA
 repeat' split
 all_goals omega
def Cl.cal (c : Cl) : Cal:=⟨c.k,c.t,c.h,c.m,c.b⟩
def Sto.ent (s : Sto) (i : Nat) : Ent:=⟨(s.slot i).time,(s.slot i).seq,64 * s.gn i + i,decide (s.st i = 3)⟩
def Zdh (l : List (Int × Int)) : List Evt:=l.map fun p=>⟨p.1,p.2⟩
def Iss (n : Nat) (s : Sto) (h : Int) : Prop:=∃ (i : Nat) (g : Int),i < n ∧ h = 64 * g + i ∧ 0 ≤ g ∧ g ≤ s.gn i ∧ (g = s.gn i → s.st i ≠ 0)
def Kop.gone (o : Kop) (i : Nat) : Prop:=
 match o with
 | .bat o=>o.scn = true ∧ o.hnd i
 | _=>False
def sls (S : List Item) : List Nat:=S.map fun x=>x.slot.toNat
def rls (l : List Int) : List Nat:=l.map Int.toNat
def ZtE (b : BOp) : Prop:=b.scn = false ∧ b.held = 4
structure BEv (s : Sto) (S : List Item) (L : List Nat) (b : BOp) : Prop where
 l : L = rls b.rem ++ sls S
 ev : ∀ R,ZaG b.c.b b.c.m ((rls b.rem).map s.ent ++ R) [] = ZaG b.c.b b.c.m R (Zdh b.ev)
 len : (b.ev.length : Int) ≤ b.c.m
 cl : b.cl = true → b.it.time < b.c.b ∧ (b.ev.length : Int) < b.c.m ∧ b.w % 4 ≠ 3
structure GM (m n : Nat) (s : Sto) (S : List Item) (cs : Nat → Option Kop) (L : List Nat) (M : Mod) : Prop where
 cap : M.cap = n
 next : M.next = s.next
 ents : M.ents = L.map s.ent
 nd : L.Nodup
 mem : ∀ i,i ∈ L ↔ i < n ∧ s.st i ≠ 0 ∧ ∀ j o,j < m → cs j = some o → ¬ o.gone i
 srt : M.ents.Pairwise leE
 iss : ∀ h ∈ M.iss,Iss n s h
 clm : ∀ i,i < n → s.st i = 2 → ∃ j b,j < m ∧ cs j = some (.bat b) ∧ b.hnd i
 rem : ∀ j b i,j < m → cs j = some (.bat b) → b.hnd i → s.st i = 2 ∨ s.st i = 3
 bev : ∀ j b,j < m → cs j = some (.bat b) → ZtE b → BEv s S L b
theorem Same.ent {s s' : Sto} (h : Same s s') (i : Nat) : s'.ent i = s.ent i:=by
 unfold Sto.ent;rw [h.slot,h.gn,h.st]
theorem Same.ents {s s' : Sto} (h : Same s s') (l : List Nat) : l.map s'.ent = l.map s.ent:=List.map_congr_left fun i _=>h.ent i
theorem Iss.same {n : Nat} {s s' : Sto} (h : Same s s') {x : Int} (hx : Iss n s x) : Iss n s' x:=by
 obtain ⟨i,g,h1,h2,h3,h4,h5⟩:=hx
 exact ⟨i,g,h1,h2,h3,by rw [h.gn];exact h4,by rw [h.gn,h.st];exact h5⟩
theorem MS.lk2 {m n K : Nat} {s : Sto} {cs : Nat → Option Kop} {S : List Item} {A : Nat → Prop} (h : MS m n K s cs S A) {t j i : Nat} {o p : Kop} (htm : t < m) (hj : j < m) (ht : cs t = some o) (hp : cs j = some p) (hi : i < 4) (h1 : o.Hd i) (h2 : p.Hd i) : j = t:=by
 have a:=h.h1 i t o hi htm ht h1
 rw [h.h1 i j p hi hj hp h2] at a
 have:=congrArg Prod.snd a
 dsimp only at this
 omega
theorem KBat.hold {n : Nat} {s : Sto} {S : List Item} {A : Nat → Prop} {b : BOp} (h : KBat n s S A b) {i : Nat} (hi : b.hnd i) : b.held = 4:=by
 obtain ⟨k,hk,hg⟩:=hi
 have:=(List.getElem?_eq_some_iff.1 hg).1
 exact h.all4 (by omega)
theorem GM.quiet {m n K : Nat} {s s' : Sto} {cs : Nat → Option Kop} {S S' : List Item} {A A' : Nat → Prop} {L : List Nat} {M : Mod} (h : MS m n K s cs S A) (g : GM m n s S cs L M) {t : Nat} {o o' : Kop} (htm : t < m) (ht : cs t = some o) (hs : StepK n K s s' S S' A A' o o') (ks : Same s s')
 (h1 : ∀ i,(o'.done = false ∧ o'.gone i) ↔ o.gone i) (h2 : ∀ i b,o = .bat b → b.hnd i → ∃ b',o' = .bat b' ∧ o'.done = false ∧ b'.hnd i) (h3 : ∀ i b',o' = .bat b' → o'.done = false → b'.hnd i → ∃ b,o = .bat b ∧ b.hnd i)
 (h4 : ∀ b',o' = .bat b' → o'.done = false → ZtE b' → BEv s' S' L b') : GM m n s' S' (upd cs t o'.left) L M:=by
 refine ⟨g.cap,g.next.trans ks.next.symm,by rw [ks.ents];exact g.ents,g.nd,fun i=>?_,g.srt,fun x hx=>(g.iss x hx).same ks,fun i hi hc=>?_,fun j b i hj hb hi=>?_,fun j b hj hb hsc=>?_⟩
 · rw [g.mem i,ks.st]
   refine ⟨fun ⟨a,b,c⟩=>⟨a,b,fun j x hj hx hg=>?_⟩,fun ⟨a,b,c⟩=>⟨a,b,fun j x hj hx hg=>?_⟩⟩
   · by_cases e : j = t
     · subst e
       rw [Zb] at hx
       obtain ⟨rfl,hd⟩:=Zl hx
       exact c j o hj ht ((h1 i).1 ⟨hd,hg⟩)
     · rw [Zi _ _ _ _ e] at hx
       exact c j x hj hx hg
   · by_cases e : j = t
     · subst e
       rw [ht] at hx;cases hx
       obtain ⟨hd,hg'⟩:=(h1 i).2 hg
       exact c j o' hj (by rw [Zb];exact YA hd) hg'
     · exact c j x hj (by rw [Zi _ _ _ _ e];exact hx) hg
 · rw [ks.st] at hc
   obtain ⟨j,b,hj,hb,hh⟩:=g.clm i hi hc
   by_cases e : j = t
   · subst e
     rw [ht] at hb;cases hb
     obtain ⟨b',e1,e2,e3⟩:=h2 i b rfl hh
     exact ⟨j,b',hj,by rw [Zb,YA e2,e1],e3⟩
   · exact ⟨j,b,hj,by rw [Zi _ _ _ _ e];exact hb,hh⟩
 · rw [ks.st]
   by_cases e : j = t
   · subst e
     rw [Zb] at hb
     obtain ⟨e1,hd⟩:=Zl hb
     obtain ⟨b0,e2,e3⟩:=h3 i b e1.symm hd hi
     subst e2
     exact g.rem j b0 i hj ht e3
   · rw [Zi _ _ _ _ e] at hb
     exact g.rem j b i hj hb hi
 · by_cases e : j = t
   · subst e
     rw [Zb] at hb
     obtain ⟨e1,hd⟩:=Zl hb
     exact h4 b e1.symm hd hsc
   · rw [Zi _ _ _ _ e] at hb
     have hv:=g.bev j b hj hb hsc
     have eS : S' = S:=by
      rcases hs.S with e1 | ⟨i,hi,hd⟩
      · exact e1
      · exact absurd (h.lk2 htm hj ht hb hi hd (by show i < b.held;rw [hsc.2];exact hi)) e
     subst eS
     exact ⟨hv.l,fun R=>by rw [ks.ents];exact hv.ev R,hv.len,hv.cl⟩
def Kop.fin : Kop → Res
 | .ins o=>⟨o.e,o.h,false,[]⟩
 | .can o=>⟨0,0,o.done,[]⟩
 | .bat o=>if o.e = 1 then .er 1 else ⟨0,0,false,Zdh o.ev⟩
 | .unk _ _=>.er 1
def Kop.For (o : Kop) (c : Cl) : Prop:=
 match o with
 | .ins o=>c.k = 1 ∧ o.t = c.t
 | .can o=>c.k = 2 ∧ o.h = c.h
 | .bat o=>c.k = 3 ∧ o.c = c
 | .unk _ _=>c.k ≠ 1 ∧ c.k ≠ 2 ∧ c.k ≠ 3
theorem Kop.new_for (th : Int) (c : Cl) : (Kop.new th c).For c:=by
 unfold Kop.new
 split
 · exact ⟨by assumption,rfl⟩
 split
 · exact ⟨by assumption,rfl⟩
 split
 · exact ⟨by assumption,rfl⟩
 · exact ⟨by assumption,by assumption,by assumption⟩
def Eff (o' : Kop) (c : Cl) (M M' : Mod) : Prop:=if o'.eff = true then doM M c.cal o'.fin.handle = (M',o'.fin) else M' = M
theorem MS.nobat {m n K : Nat} {s : Sto} {cs : Nat → Option Kop} {S : List Item} {A : Nat → Prop} (h : MS m n K s cs S A) {t i : Nat} {o : Kop} (htm : t < m) (ht : cs t = some o) (hi : i < 4) (hd : o.Hd i) {j : Nat} {b : BOp} (hj : j < m) (hne : j ≠ t) (hb : cs j = some (.bat b)) : b.held ≠ 4:=
 fun e=>hne (h.lk2 htm hj ht hb hi hd (by show i < b.held;omega))
theorem GM.room {m n : Nat} {s : Sto} {S : List Item} {cs : Nat → Option Kop} {L : List Nat} {M : Mod} (g : GM m n s S cs L M) {i : Nat} (hi : i < n) (h0 : s.st i = 0) : (M.ents.length : Int) < M.cap ∧ i ∉ L:=by
 have hn : i ∉ L:=fun y=>((g.mem i).1 y).2.1 h0
 have:=YF n (i :: L) (List.nodup_cons.2 ⟨hn,g.nd⟩) fun x hx=>by
  rcases List.mem_cons.1 hx with rfl | hx
  · exact hi
  · exact ((g.mem x).1 hx).1
 rw [g.ents,g.cap,List.length_map]
 rw [List.length_cons] at this
 exact ⟨by omega,hn⟩
theorem GM.full {m n : Nat} {s : Sto} {S : List Item} {cs : Nat → Option Kop} {L : List Nat} {M : Mod} (g : GM m n s S cs L M) (hall : ∀ i,i < n → s.st i ≠ 0) (hno : ∀ i j o,j < m → cs j = some o → ¬ o.gone i) : (M.ents.length : Int) = M.cap:=by
 have hp : L.Perm (List.range n):=ZbG g.nd List.nodup_range fun a=>by
  rw [g.mem a,List.mem_range]
  exact ⟨fun x=>x.1,fun x=>⟨x,hall a x,fun j o hj ho=>hno a j o hj ho⟩⟩
 rw [g.ents,g.cap,List.length_map,hp.length_eq,List.length_range]
theorem Zi2 {n : Nat} {s : Sto} {A : Nat → Prop} {o : IOp} (ho : IOk n A o) (he : (o.step s).1.eff = true) :
 (o.pc = .start ∧ (o.t < 0 ∨ 1152921504606846976 < o.t) ∧ (o.step s).1.e = 1 ∧ (o.step s).1.h = 0) ∨ (o.pc = .alloc ∧ (((o.step s).1.e = 10 ∧ (o.step s).1.h = 0) ∨ (o.step s).1.e = 0)):=by
 obtain ⟨shp,th0,early,tm,full,won,hand⟩:=ho
 obtain ⟨th,x,pc,hd,hh,e,ok,ef,bl⟩:=o
 dsimp only at shp early
 have lock : ∀ (i : Nat) (q : PC),(IOp.lock ⟨th,x,pc,hd,hh,e,ok,ef,bl⟩ s i q).1.eff = true → False:=fun i q y=>by
  unfold IOp.lock at y
  split at y <;> cases y
 have alloc : pc = .alloc → (((IOp.step ⟨th,x,pc,hd,hh,e,ok,ef,bl⟩ s).1.e = 10 ∧ (IOp.step ⟨th,x,pc,hd,hh,e,ok,ef,bl⟩ s).1.h = 0) ∨ (IOp.step ⟨th,x,pc,hd,hh,e,ok,ef,bl⟩ s).1.e = 0):=by
  rintro rfl
  obtain ⟨rfl,rfl,rfl⟩:=early rfl
  unfold IOp.step
  dsimp only
  split
  · exact .inr rfl
  · exact .inl ⟨rfl,rfl⟩
 cases shp with
 | start=>
  obtain ⟨rfl,rfl,rfl⟩:=early rfl
  unfold IOp.step at he ⊢
  dsimp only at he ⊢
  by_cases hb : x < 0 ∨ 1152921504606846976 < x
  · rw [if_pos hb]
    exact .inl ⟨rfl,hb,rfl,rfl⟩
  · rw [if_neg hb] at he
    cases he
 | top=>exact (lock 0 .conf he).elim
 | r0=>exact (lock 1 .choose he).elim
 | r1=>exact (lock 1 .choose he).elim
 | bottom=>exact (lock 2 .arena he).elim
 | a0=>exact (lock 3 .alloc he).elim
 | a1=>exact (lock 3 .alloc he).elim
 | a2=>exact (lock 3 .alloc he).elim
 | conf=>cases he
 | undo=>cases he
 | choose=>cases he
 | l0=>exact .inr ⟨rfl,alloc rfl⟩
 | l1=>exact .inr ⟨rfl,alloc rfl⟩
 | l2=>exact .inr ⟨rfl,alloc rfl⟩
 | v0=>cases he
 | v1=>cases he
 | v2=>cases he
 | p0=>cases he
 | p1=>cases he
 | p2=>cases he
 | rel=>cases he
theorem Znr {M : Mod} {c : Cl} (hc : c.k = 1) (h : Int) : doM M c.cal h = ZcM M c.cal h:=by
 unfold doM
 rw [if_pos (show c.cal.kind = 1 from hc)]
theorem GM.ins {m n K : Nat} {s : Sto} {cs : Nat → Option Kop} {S S' : List Item} {A A' : Nat → Prop} {L : List Nat} {M : Mod} (h : MS m n K s cs S A) (g : GM m n s S cs L M) (hK : K + 1 ≤ 20000) {t : Nat} {o : IOp} (htm : t < m) (ht : cs t = some (.ins o)) {c : Cl} (hc : (Kop.ins o).For c)
 (hs : StepK n K s (o.step s).2 S S' A A' (.ins o) (.ins (o.step s).1)) : ∃ L' M',GM m n (o.step s).2 S' (upd cs t (Kop.ins (o.step s).1).left) L' M' ∧ Eff (.ins (o.step s).1) c M M':=by
 obtain ⟨hok,hth⟩:=h.ops t _ htm ht
 have hok : IOk n A o:=hok
 obtain ⟨hc1,hc2⟩ : c.k = 1 ∧ o.t = c.t:=hc
 have hct : c.cal.time = o.t:=hc2.symm
 rcases Zkv h.sb hok with ⟨a1,a2,a3,a4,a5⟩ | ⟨l,i,hid,hi,h1,hs2,b1,b2,b3⟩
 · have ks : Same s (o.step s).2:=⟨a1,fun j=>(a4 j).1,fun j=>(a4 j).2,a3,a2⟩
   refine ⟨L,M,g.quiet h htm ht hs ks (fun i=>⟨fun x=>x.2.elim,fun x=>x.elim⟩) (fun i b e=>by cases e) (fun i b e=>by cases e) (fun b e=>by cases e),?_⟩
   unfold Eff
   by_cases he : (o.step s).1.eff = true
   · rw [if_pos (show (Kop.ins (o.step s).1).eff = true from he),Znr hc1]
     rcases Zi2 (s:=s) hok he with ⟨_,w2,w3,w4⟩ | ⟨w1,⟨w2,w3⟩ | w2⟩
     · unfold ZcM
       rw [if_pos (show c.cal.time < 0 ∨ 1152921504606846976 < c.cal.time by rw [hct];exact w2)]
       show (M,Res.er 1) = (M,(⟨(o.step s).1.e,(o.step s).1.h,false,[]⟩ : Res))
       rw [w3,w4];rfl
     · have htime:=hok.tm (by rw [w1];simp)
       have hid : s.idle = []:=by
        rcases a5 he with e1 | ⟨_,e2⟩
        · omega
        · exact e2
       have hfull:=g.full (fun i hi e0=>by have:=(h.sb.fr i hi).2 e0;rw [hid] at this;cases this) fun i j p hj hp hg=>by
        cases p with
        | bat b=>
         have hb : KBat n s S A b:=(h.ops j _ hj hp).1
         have hne : j ≠ t:=fun e=>by rw [e,ht] at hp;cases hp
         exact h.nobat htm ht (i:=3) (by omega) (.inr ⟨rfl,.inl w1⟩) hj hne hp (hb.hold hg.2)
        | _=>exact hg.elim
       unfold ZcM
       rw [if_neg (show ¬ (c.cal.time < 0 ∨ 1152921504606846976 < c.cal.time) by rw [hct];omega),if_pos hfull]
       show (M,Res.er 10) = (M,(⟨(o.step s).1.e,(o.step s).1.h,false,[]⟩ : Res))
       rw [w2,w3];rfl
     · rcases a5 he with e1 | ⟨e1,_⟩ <;> omega
   · rw [if_neg (show ¬ (Kop.ins (o.step s).1).eff = true from he)]
 · have hw:=Zi2 (s:=s) hok b1
   have hpc : o.pc = .alloc:=by
    rcases hw with ⟨_,_,w3,_⟩ | ⟨w1,_⟩
    · rw [b2] at w3;cases w3
    · exact w1
   have htime:=hok.tm (by rw [hpc];simp)
   obtain ⟨hroom,hiL⟩:=g.room hi h1
   have kt:=Same.touch s o.th [3]
   have hn:=h.sb.n12
   have hkb:=h.sb.kb
   have hwd:=h.sb.wd i hi
   have hg0 : 0 ≤ s.gn i:=by have:=hwd.1;unfold Sto.gn;omega
   have ht0 : SOk n (s.touch o.th [3]) S A K:=h.sb.toSOk.touch o.th [3]
   have aw:=ZeO (s:=s.touch o.th [3]) (i:=i) (by rw [ht0.nw];omega) o.th o.t l (ht0.wd i hi).1
   have e1 : ∀ j,(o.step s).2.slot j = if j = i then ⟨0,0,o.t,s.next⟩ else s.slot j:=fun j=>by
    rw [hs2];exact Zin (s:=s.touch o.th [3]) (by rw [ht0.ns];exact hi) j
   have e2 : ∀ j,(o.step s).2.st j = if j = i then 1 else s.st j:=fun j=>by rw [hs2,(aw j).2,kt.st]
   have e3 : ∀ j,(o.step s).2.gn j = s.gn j:=fun j=>by rw [hs2,(aw j).1,kt.gn]
   have e4 : (o.step s).2.next = s.next + 1:=by rw [hs2];rfl
   have hent : ∀ j,j ≠ i → (o.step s).2.ent j = s.ent j:=fun j hj=>by unfold Sto.ent;rw [e1,e2,e3,if_neg hj,if_neg hj]
   have henti : (o.step s).2.ent i = ⟨c.t,M.next,64 * s.gn i + i,false⟩:=by
    unfold Sto.ent;rw [e1,e2,e3,if_pos rfl,if_pos rfl,g.next,← hc2];rfl
   have hiss : ∀ x,x ∈ M.iss → x ≠ 64 * s.gn i + i:=fun x hx e=>by
    obtain ⟨j,q,q1,q2,q3,q4,q5⟩:=g.iss x hx
    have : j = i:=by omega
    subst this
    exact q5 (by omega) h1
   have hseq : ∀ x ∈ M.ents,x.seq < M.next:=fun x hx=>by
    rw [g.ents] at hx
    obtain ⟨j,hj,rfl⟩:=List.mem_map.1 hx
    have hm:=(g.mem j).1 hj
    have:=(h.sb.tm j hm.1 hm.2.1).2.2
    rw [g.next];exact this
   have hcmp : ∀ x ∈ M.ents,(YU x ⟨c.t,M.next,64 * s.gn i + i,false⟩ < 0 ↔ x.time ≤ c.t):=fun x hx=>by
    have:=hseq x hx
    rw [Zfl];dsimp only;omega
   have hmono : Zrb M.ents ⟨c.t,M.next,64 * s.gn i + i,false⟩:=fun a b x y hab hx hy hcy=>by
    have hxm:=List.mem_of_getElem? hx
    have hym:=List.mem_of_getElem? hy
    rw [hcmp y hym] at hcy
    rw [hcmp x hxm]
    by_cases e : a = b
    · subst e;rw [hx] at hy;cases hy;exact hcy
    · have hp:=g.srt
      rw [List.pairwise_iff_getElem] at hp
      obtain ⟨p1,rfl⟩:=List.getElem?_eq_some_iff.1 hx
      obtain ⟨p2,rfl⟩:=List.getElem?_eq_some_iff.1 hy
      have:=(ZaV _ _).1 (hp a b p1 p2 (by omega))
      omega
   generalize hP : ZkC M.ents ⟨c.t,M.next,64 * s.gn i + i,false⟩ = p at *
   have hLne : ∀ j ∈ L,j ≠ i:=fun j hj e=>hiL (e ▸ hj)
   have hL' : (L.take p ++ i :: L.drop p).Perm (i :: L):=by
    have:=(List.perm_middle (a:=i) (l₁:=L.take p) (l₂:=L.drop p))
    rwa [List.take_append_drop] at this
   refine ⟨L.take p ++ i :: L.drop p,⟨M.cap,ZrN M.ents ⟨c.t,M.next,64 * s.gn i + i,false⟩,M.next + 1,M.iss ++ [64 * s.gn i + i]⟩,⟨g.cap,by rw [e4,← g.next],?_,?_,fun j=>?_,ZhP g.srt hmono,fun x hx=>?_,fun j hj hcj=>?_,fun j b k hj hb hk=>?_,fun j b hj hb hsc=>?_⟩,?_⟩
   · show ZrN M.ents _ = _
     unfold ZrN
     rw [hP,List.map_append,List.map_cons,henti,g.ents,← List.map_take,← List.map_drop]
     congr 1
     · exact List.map_congr_left fun j hj=>(hent j (hLne j (List.mem_of_mem_take hj))).symm
     · congr 1
       exact List.map_congr_left fun j hj=>(hent j (hLne j (List.mem_of_mem_drop hj))).symm
   · exact hL'.nodup_iff.2 (List.nodup_cons.2 ⟨hiL,g.nd⟩)
   · rw [hL'.mem_iff,List.mem_cons,e2,g.mem j]
     constructor
     · rintro (rfl | ⟨q1,q2,q3⟩)
       · refine ⟨hi,by rw [if_pos rfl];decide,fun k x hk hx hg=>?_⟩
         by_cases e : k = t
         · subst e;rw [Zb] at hx;rw [(Zl hx).1] at hg;exact hg.elim
         · rw [Zi _ _ _ _ e] at hx
           cases x with
           | bat b=>
            have hb : KBat n s S A b:=(h.ops k _ hk hx).1
            exact h.nobat htm ht (i:=3) (by omega) (.inr ⟨rfl,.inl hpc⟩) hk e hx (hb.hold hg.2)
           | _=>exact hg.elim
       · have hne : j ≠ i:=fun e=>q2 (by rw [e];exact h1)
         refine ⟨q1,by rw [if_neg hne];exact q2,fun k x hk hx hg=>?_⟩
         by_cases e : k = t
         · subst e;rw [Zb] at hx;rw [(Zl hx).1] at hg;exact hg.elim
         · rw [Zi _ _ _ _ e] at hx;exact q3 k x hk hx hg
     · rintro ⟨q1,q2,q3⟩
       by_cases e : j = i
       · exact .inl e
       · rw [if_neg e] at q2
         refine .inr ⟨q1,q2,fun k x hk hx hg=>?_⟩
         have e : k ≠ t:=fun e=>by subst e;rw [ht] at hx;cases hx;exact hg.elim
         exact q3 k x hk (by rw [Zi _ _ _ _ e];exact hx) hg
   · rcases List.mem_append.1 hx with hx | hx
     · obtain ⟨j,q,q1,q2,q3,q4,q5⟩:=g.iss x hx
       refine ⟨j,q,q1,q2,q3,by rw [e3];exact q4,fun y=>?_⟩
       rw [e3] at y
       rw [e2]
       split
       · decide
       · exact q5 y
     · rw [List.mem_singleton] at hx
       exact ⟨i,s.gn i,hi,hx,hg0,by rw [e3];exact Int.le_refl _,fun _=>by rw [e2,if_pos rfl];decide⟩
   · rw [e2] at hcj
     split at hcj
     · cases hcj
     · obtain ⟨k,b,hk,hb,hh⟩:=g.clm j hj hcj
       have e : k ≠ t:=fun e=>by subst e;rw [ht] at hb;cases hb
       exact ⟨k,b,hk,by rw [Zi _ _ _ _ e];exact hb,hh⟩
   · have e : j ≠ t:=fun e=>by subst e;rw [Zb] at hb;have:=(Zl hb).1;cases this
     rw [Zi _ _ _ _ e] at hb
     have hr:=g.rem j b k hj hb hk
     rw [e2,if_neg fun e=>by rw [e,h1] at hr;rcases hr with y | y <;> cases y]
     exact hr
   · have e : j ≠ t:=fun e=>by subst e;rw [Zb] at hb;have:=(Zl hb).1;cases this
     rw [Zi _ _ _ _ e] at hb
     exact absurd hsc.2 (h.nobat htm ht (i:=3) (by omega) (.inr ⟨rfl,.inl hpc⟩) hj e hb)
   · unfold Eff
     rw [if_pos (show (Kop.ins (o.step s).1).eff = true from b1),Znr hc1]
     show ZcM M c.cal (o.step s).1.h = (_,(⟨(o.step s).1.e,(o.step s).1.h,false,[]⟩ : Res))
     rw [b2,b3]
     unfold ZcM
     rw [if_neg (show ¬ (c.cal.time < 0 ∨ 1152921504606846976 < c.cal.time) by rw [hct];omega),if_neg (by omega),if_neg (fun y=>?_)]
     · rfl
     · rcases y with y | y
       · exact y ⟨by omega,by omega⟩
       · exact hiss _ y rfl
theorem GM.unk {m n K : Nat} {s : Sto} {cs : Nat → Option Kop} {S S' : List Item} {A A' : Nat → Prop} {L : List Nat} {M : Mod} (h : MS m n K s cs S A) (g : GM m n s S cs L M) {t : Nat} {th : Int} {z : Bool} (htm : t < m) (ht : cs t = some (.unk th z)) {c : Cl} (hc : (Kop.unk th z).For c)
 (hs : StepK n K s s S S' A A' (.unk th z) (.unk th true)) : ∃ L' M',GM m n s S' (upd cs t (Kop.unk th true).left) L' M' ∧ Eff (.unk th true) c M M':=by
 obtain ⟨c1,c2,c3⟩ : c.k ≠ 1 ∧ c.k ≠ 2 ∧ c.k ≠ 3:=hc
 refine ⟨L,M,g.quiet h htm ht hs (.refl s) (fun i=>⟨fun x=>x.2.elim,fun x=>x.elim⟩) (fun i b e=>by cases e) (fun i b e=>by cases e) (fun b e=>by cases e),?_⟩
 unfold Eff
 rw [if_pos (show (Kop.unk th true).eff = true from rfl)]
 unfold doM
 rw [if_neg (show ¬ c.cal.kind = 1 from c1),if_neg (show ¬ c.cal.kind = 2 from c2),if_neg (show ¬ c.cal.kind = 3 from c3)]
 rfl
theorem Zls {α : Type} {l : List α} (h : l.Nodup) {i j : Nat} {x : α} (hi : l[i]? = some x) (hj : l[j]? = some x) : i = j:=by
 obtain ⟨h1,e1⟩:=List.getElem?_eq_some_iff.1 hi
 obtain ⟨h2,e2⟩:=List.getElem?_eq_some_iff.1 hj
 have hp:=List.pairwise_iff_getElem.1 h
 rcases Nat.lt_trichotomy i j with c | c | c
 · exact absurd (e1.trans e2.symm) (hp i j h1 h2 c)
 · exact c
 · exact absurd (e2.trans e1.symm) (hp j i h2 h1 c)
theorem Zra {h : Int} {i : Nat} (hi : ZM h = (i : Int)) : h = 64 * Zdi h + i:=by
 unfold ZM at hi
 unfold Zdi
 split at hi
 · next e=>rw [if_pos e];omega
 · omega
theorem ZnX {g g' : Int} {i j : Nat} (hi : i < 64) (hj : j < 64) (h : 64 * g + (i : Int) = 64 * g' + j) : i = j ∧ g = g':=by omega
theorem ZkO {M : Mod} {c : Cl} (hc : c.k = 2) (h : Int) : doM M c.cal h = Zgd M c.cal:=by
 unfold doM
 rw [if_neg (show ¬ c.cal.kind = 1 by show ¬ c.k = 1;omega),if_pos (show c.cal.kind = 2 from hc)]
theorem GM.none {m n : Nat} {s : Sto} {S : List Item} {cs : Nat → Option Kop} {L : List Nat} {M : Mod} (g : GM m n s S cs L M) {c : Cl} (hc : c.k = 2) (h : Int) (hno : ∀ j,j ∈ L → ¬ (64 * s.gn j + j = c.h ∧ s.st j ≠ 3)) : doM M c.cal h = (M,.er 0):=by
 rw [ZkO hc]
 unfold Zgd
 have : M.ents.findIdx? (isH c.cal.handle) = Option.none:=by
  rw [List.findIdx?_eq_none_iff]
  intro x hx
  rw [g.ents] at hx
  obtain ⟨j,hj,rfl⟩:=List.mem_map.1 hx
  have:=hno j hj
  unfold isH Sto.ent
  dsimp only
  show (decide (64 * s.gn j + (j : Int) = c.h) && !decide (s.st j = 3)) = false
  by_cases e1 : 64 * s.gn j + (j : Int) = c.h
  · by_cases e2 : s.st j = 3
    · simp [e2]
    · exact absurd ⟨e1,e2⟩ this
  · simp [e1]
 rw [this]
theorem GM.can {m n K : Nat} {s : Sto} {cs : Nat → Option Kop} {S S' : List Item} {A A' : Nat → Prop} {L : List Nat} {M : Mod} (h : MS m n K s cs S A) (g : GM m n s S cs L M) {t : Nat} {o : COp} (htm : t < m) (ht : cs t = some (.can o)) {c : Cl} (hc : (Kop.can o).For c)
 (hs : StepK n K s (Zs o s).2 S S' A A' (.can o) (.can (Zs o s).1)) : ∃ L' M',GM m n (Zs o s).2 S' (upd cs t (Kop.can (Zs o s).1).left) L' M' ∧ Eff (.can (Zs o s).1) c M M':=by
 obtain ⟨hok,hth⟩:=h.ops t _ htm ht
 have hok : KCan K o:=hok
 obtain ⟨c1,c2⟩ : c.k = 2 ∧ o.h = c.h:=hc
 have hn:=h.sb.n12
 have quiet : Same s (Zs o s).2 → GM m n (Zs o s).2 S' (upd cs t (Kop.can (Zs o s).1).left) L M:=fun ks=>g.quiet h htm ht hs ks (fun i=>⟨fun x=>x.2.elim,fun x=>x.elim⟩) (fun i b e=>by cases e) (fun i b e=>by cases e) (fun b e=>by cases e)
 have noeff : (Zs o s).1.ph ≠ 2 → Same s (Zs o s).2 → ∃ L' M',GM m n (Zs o s).2 S' (upd cs t (Kop.can (Zs o s).1).left) L' M' ∧ Eff (.can (Zs o s).1) c M M':=fun e ks=>by
  refine ⟨L,M,quiet ks,?_⟩
  unfold Eff
  rw [if_neg (show ¬ (Kop.can (Zs o s).1).eff = true by show ¬ decide ((Zs o s).1.ph = 2) = true;simpa using e)]
 have lost : (Zs o s).1.ph = 2 ∧ (Zs o s).1.done = false ∧ (Zs o s).1.blk = false → Same s (Zs o s).2 → (∀ j,j ∈ L → ¬ (64 * s.gn j + j = c.h ∧ s.st j ≠ 3)) → ∃ L' M',GM m n (Zs o s).2 S' (upd cs t (Kop.can (Zs o s).1).left) L' M' ∧ Eff (.can (Zs o s).1) c M M':=fun e ks hno=>by
  refine ⟨L,M,quiet ks,?_⟩
  unfold Eff
  rw [if_pos (show (Kop.can (Zs o s).1).eff = true by show decide ((Zs o s).1.ph = 2) = true;simpa using e.1),g.none c1 _ hno]
  show (M,Res.er 0) = (M,(⟨0,0,(Zs o s).1.done,[]⟩ : Res))
  rw [e.2.1];rfl
 have slot_of : ∀ j,j ∈ L → 64 * s.gn j + (j : Int) = c.h → ZM o.h = (j : Int) ∧ Zdi o.h = s.gn j:=fun j hj e=>by
  have hjn:=((g.mem j).1 hj).1
  have hwd:=h.sb.wd j hjn
  have hkb:=h.sb.kb
  rw [c2,← e]
  exact Zgb ⟨by have:=hwd.1;unfold Sto.gn;omega,by have:=hwd.2;omega⟩ (by omega)
 rcases COp.cases h.sb hok with ⟨x,e,es⟩ | ⟨hi,hsl,hp,hst,e,ks⟩ | ⟨hi,hsl,hp,hg,hst,e,ks,_⟩ | ⟨hi,hsl,hp,hg,hst,e,ks⟩ | ⟨hi,hsl,hp,hg,hst,e,k1,k2,k3,k4,k5⟩ | ⟨hi,hsl,hp,hst,e,ks⟩
 · exact lost e (by rw [es];exact .refl s) fun j hj y=>x ⟨j,((g.mem j).1 hj).1,(slot_of j hj y.1).1⟩
 · refine lost e ks fun j hj y=>?_
   obtain ⟨z1,z2⟩:=slot_of j hj y.1
   have ej : j = _:=Int.ofNat.inj (z1.symm.trans hsl)
   subst ej
   have hm:=(g.mem j).1 hj
   rcases hst with q | q | q
   · exact q z2.symm
   · exact hm.2.1 q
   · exact y.2 q
 · exact noeff (by rw [e.1];decide) ks
 · exact noeff (by rw [e.1];decide) ks
 · rename_i i
   have hs' : ∀ j,j ≠ i → (Zs o s).2.ent j = s.ent j:=fun j hj=>by unfold Sto.ent;rw [k1,k2,k3,if_neg hj]
   have hsi : (Zs o s).2.ent i = { s.ent i with dead:=true }:=by unfold Sto.ent;rw [k1,k2,k3,if_pos rfl];rfl
   have hhd : 64 * s.gn i + (i : Int) = c.h:=by rw [← c2,Zra hsl,hg]
   have hnog : ∀ j x,j < m → cs j = some x → ¬ x.gone i:=fun j x hj hx hgo=>by
    cases x with
    | bat b=>rcases g.rem j b i hj hx hgo.2 with y | y <;> (rw [hst] at y;cases y)
    | _=>exact hgo.elim
   have hiL : i ∈ L:=(g.mem i).2 ⟨hi,by rw [hst];decide,hnog⟩
   obtain ⟨k,hk⟩ : ∃ k,M.ents.findIdx? (isH c.h) = some k:=by
    cases hf : M.ents.findIdx? (isH c.h) with
    | some k=>exact ⟨k,rfl⟩
    | none=>
     have:=List.findIdx?_eq_none_iff.1 hf (s.ent i) (by rw [g.ents];exact List.mem_map.2 ⟨i,hiL,rfl⟩)
     unfold isH Sto.ent at this
     dsimp only at this
     rw [hhd,hst] at this
     simp at this
   obtain ⟨hkl,hkt,hkb⟩:=List.findIdx?_eq_some_iff_getElem.1 hk
   have hkL : k < L.length:=by rw [g.ents,List.length_map] at hkl;exact hkl
   have hLk : L[k] = i:=by
    have e1 : M.ents[k]? = some (s.ent L[k]):=by rw [g.ents,List.getElem?_map,List.getElem?_eq_getElem hkL];rfl
    have e2 : M.ents[k] = s.ent L[k]:=by
     rw [List.getElem?_eq_getElem hkl] at e1;exact Option.some.inj e1
    rw [e2] at hkt
    unfold isH Sto.ent at hkt
    dsimp only at hkt
    rw [Bool.and_eq_true,decide_eq_true_eq] at hkt
    have hm:=(g.mem L[k]).1 (List.getElem_mem hkL)
    exact (ZnX (by omega) (by omega) (hkt.1.trans hhd.symm)).1
   have hents : M.ents.modify k (fun e=>{ e with dead:=true }) = L.map (Zs o s).2.ent:=by
    rw [g.ents]
    apply List.ext_getElem?
    intro j
    rw [List.getElem?_modify,List.getElem?_map,List.getElem?_map]
    by_cases hj : k = j
    · subst hj
      rw [List.getElem?_eq_getElem hkL,hLk]
      simp [hsi]
    · cases hx : L[j]? with
      | none=>simp [hj]
      | some x=>
       have hne : x ≠ i:=fun ex=>hj (by
        have hjl:=(List.getElem?_eq_some_iff.1 hx).1
        have e3 : L[j] = i:=by rw [(List.getElem?_eq_some_iff.1 hx).2];exact ex
        exact Zls g.nd (by rw [List.getElem?_eq_getElem hkL,hLk]) (by rw [List.getElem?_eq_getElem hjl,e3]))
       simp [hj,hs' x hne]
   have hst' : ∀ j,(Zs o s).2.st j ≠ 0 ↔ s.st j ≠ 0:=fun j=>by
    rw [k2]
    split
    · next ej=>rw [ej,hst];decide
    · exact Iff.rfl
   have hleft : (Kop.can (Zs o s).1).left = Option.none:=ZlB (by show decide ((Zs o s).1.ph = 2) = true;rw [e.1];rfl)
   have eS : S' = S:=by
    rcases hs.S with y | ⟨_,_,y⟩
    · exact y
    · exact y.elim
   subst eS
   refine ⟨L,{ M with ents:=M.ents.modify k fun e=>{ e with dead:=true } },⟨g.cap,by rw [k4];exact g.next,hents,g.nd,fun j=>?_,?_,fun x hx=>?_,fun j hj hcj=>?_,fun j b a hj hb ha=>?_,fun j b hj hb hsc=>?_⟩,?_⟩
   · rw [g.mem j,hst',hleft]
     refine ⟨fun ⟨a,b,d⟩=>⟨a,b,fun q x hq hx hgo=>?_⟩,fun ⟨a,b,d⟩=>⟨a,b,fun q x hq hx hgo=>?_⟩⟩
     · by_cases eq : q = t
       · subst eq;rw [Zb] at hx;cases hx
       · rw [Zi _ _ _ _ eq] at hx;exact d q x hq hx hgo
     · have eq : q ≠ t:=fun eq=>by subst eq;rw [ht] at hx;cases hx;exact hgo.elim
       exact d q x hq (by rw [Zi _ _ _ _ eq];exact hx) hgo
   · have hp:=g.srt
     have hkey : ∀ (l1 l2 : List Ent),l1.map (fun e=>(e.time,e.seq)) = l2.map (fun e=>(e.time,e.seq)) → l1.Pairwise leE → l2.Pairwise leE:=fun l1 l2 e1 e2=>by
      rw [← Zdc,Zj6] at e2 ⊢
      rw [← e1];exact e2
     exact hkey _ _ (ZjT M.ents k (fun e=>(e.time,e.seq)) fun _=>rfl).symm hp
   · obtain ⟨j,q,q1,q2,q3,q4,q5⟩:=g.iss x hx
     exact ⟨j,q,q1,q2,q3,by rw [k3];exact q4,fun y=>(hst' j).2 (q5 (by rw [k3] at y;exact y))⟩
   · rw [k2] at hcj
     split at hcj
     · cases hcj
     · obtain ⟨q,b,hq,hb,hh⟩:=g.clm j hj hcj
       have eq : q ≠ t:=fun eq=>by subst eq;rw [ht] at hb;cases hb
       exact ⟨q,b,hq,by rw [Zi _ _ _ _ eq];exact hb,hh⟩
   · have eq : j ≠ t:=fun eq=>by subst eq;rw [Zb,hleft] at hb;cases hb
     rw [Zi _ _ _ _ eq] at hb
     have hr:=g.rem j b a hj hb ha
     rw [k2]
     split
     · exact .inr rfl
     · exact hr
   · have eq : j ≠ t:=fun eq=>by subst eq;rw [Zb,hleft] at hb;cases hb
     rw [Zi _ _ _ _ eq] at hb
     have hv:=g.bev j b hj hb hsc
     refine ⟨hv.l,fun R=>?_,hv.len,hv.cl⟩
     have e1 : (rls b.rem).map (Zs o s).2.ent = (rls b.rem).map s.ent:=List.map_congr_left fun x hx=>hs' x fun ex=>by
      subst ex
      obtain ⟨y,hy,ey⟩:=List.mem_map.1 hx
      obtain ⟨q,hq⟩:=List.mem_iff_getElem?.1 hy
      have hkb : KBat n s S' A b:=(h.ops j _ hj hb).1
      obtain ⟨y',hy1,rfl⟩:=hkb.ok.int q y hq
      have : y' = x:=by omega
      subst this
      rcases g.rem j b y' hj hb ⟨q,by rw [(hkb.ok.early hsc.1).1];exact Nat.zero_le _,hq⟩ with z | z <;> (rw [hst] at z;cases z)
     rw [e1];exact hv.ev R
   · unfold Eff
     rw [if_pos (show (Kop.can (Zs o s).1).eff = true by show decide ((Zs o s).1.ph = 2) = true;rw [e.1];rfl),ZkO c1]
     unfold Zgd
     rw [show c.cal.handle = c.h from rfl,hk]
     show (_,(⟨0,0,true,[]⟩ : Res)) = (_,(⟨0,0,(Zs o s).1.done,[]⟩ : Res))
     rw [e.2.1]
 · exact noeff (by rw [e.1];decide) ks
theorem Zqf {n : Nat} {A : Nat → Prop} {o : IOp} (ho : IOk n A o) (hp : o.pc = .put) : ∃ i,i < 3 ∧ o.Hd i:=by
 have h:=ho.shp
 rw [hp] at h
 generalize hd : o.hd = z at h
 cases h with
 | p0=>exact ⟨0,by omega,.inl (by rw [hd];simp [hdL])⟩
 | p1=>exact ⟨1,by omega,.inl (by rw [hd];simp [hdL])⟩
 | p2=>exact ⟨1,by omega,.inl (by rw [hd];simp [hdL])⟩
theorem GM.calm {m n K : Nat} {s s' : Sto} {cs : Nat → Option Kop} {S S' : List Item} {A A' : Nat → Prop} {L : List Nat} {M : Mod} (h : MS m n K s cs S A) (g : GM m n s S cs L M) {t : Nat} {o o' : Kop} (htm : t < m) (ht : cs t = some o) (hs : StepK n K s s' S S' A A' o o')
 (ke : ∀ i,s'.ent i = s.ent i) (kg : ∀ i,s'.gn i = s.gn i) (kz : ∀ i,s'.st i = 0 ↔ s.st i = 0) (kn : s'.next = s.next)
 (h1 : ∀ i,(o'.done = false ∧ o'.gone i) ↔ o.gone i) (h2 : ∀ i,i < n → s'.st i = 2 → ∃ j b,j < m ∧ upd cs t o'.left j = some (.bat b) ∧ b.hnd i) (h3 : ∀ j b i,j < m → upd cs t o'.left j = some (.bat b) → b.hnd i → s'.st i = 2 ∨ s'.st i = 3)
 (h4 : ∀ b',o' = .bat b' → o'.done = false → ZtE b' → BEv s' S' L b') : GM m n s' S' (upd cs t o'.left) L M:=by
 have kes : ∀ l : List Nat,l.map s'.ent = l.map s.ent:=fun l=>List.map_congr_left fun i _=>ke i
 refine ⟨g.cap,g.next.trans kn.symm,by rw [kes];exact g.ents,g.nd,fun i=>?_,g.srt,fun x hx=>?_,h2,h3,fun j b hj hb hsc=>?_⟩
 · rw [g.mem i,Ne,Ne,kz]
   refine ⟨fun ⟨a,b,c⟩=>⟨a,b,fun j x hj hx hg=>?_⟩,fun ⟨a,b,c⟩=>⟨a,b,fun j x hj hx hg=>?_⟩⟩
   · by_cases e : j = t
     · subst e
       rw [Zb] at hx
       obtain ⟨rfl,hd⟩:=Zl hx
       exact c j o hj ht ((h1 i).1 ⟨hd,hg⟩)
     · rw [Zi _ _ _ _ e] at hx
       exact c j x hj hx hg
   · by_cases e : j = t
     · subst e
       rw [ht] at hx;cases hx
       obtain ⟨hd,hg'⟩:=(h1 i).2 hg
       exact c j o' hj (by rw [Zb];exact YA hd) hg'
     · exact c j x hj (by rw [Zi _ _ _ _ e];exact hx) hg
 · obtain ⟨i,q,h1,h2,h3,h4,h5⟩:=g.iss x hx
   exact ⟨i,q,h1,h2,h3,by rw [kg];exact h4,fun y=>by rw [Ne,kz];exact h5 (by rw [kg] at y;exact y)⟩
 · by_cases e : j = t
   · subst e
     rw [Zb] at hb
     obtain ⟨e1,hd⟩:=Zl hb
     exact h4 b e1.symm hd hsc
   · rw [Zi _ _ _ _ e] at hb
     have hv:=g.bev j b hj hb hsc
     have eS : S' = S:=by
      rcases hs.S with e1 | ⟨i,hi,hd⟩
      · exact e1
      · exact absurd (h.lk2 htm hj ht hb hi hd (by show i < b.held;rw [hsc.2];exact hi)) e
     subst eS
     exact ⟨hv.l,fun R=>by rw [kes];exact hv.ev R,hv.len,hv.cl⟩
theorem Zjt (l : List Int) (i : Nat) : rls (l ++ [(i : Int)]) = rls l ++ [i]:=by unfold rls;simp
theorem ZfX (l : List (Int × Int)) : (Zdh l).length = l.length:=by simp [Zdh]
theorem Zjm {s : Sto} {i : Nat} {x : Item} (hx : x = s.item i) (T : List Item) : sls (x :: T) = i :: sls T:=by
 rw [hx];rfl
theorem GM.all_held {m n K : Nat} {s : Sto} {cs : Nat → Option Kop} {S : List Item} {A : Nat → Prop} {L : List Nat} {M : Mod} (h : MS m n K s cs S A) (g : GM m n s S cs L M) {t : Nat} {o : BOp} (htm : t < m) (ht : cs t = some (.bat o)) (h3 : o.held = 3) (h0 : o.scn = false) (hl : (s.m.held 3).1 = false) : L = sls S:=by
 obtain ⟨hok,hth⟩:=h.ops t _ htm ht
 have hok : KBat n s S A o:=hok
 obtain ⟨e1,e2⟩:=hok.ok.early h0
 obtain ⟨_,e3,_⟩:=e2 (by omega)
 have hno : ∀ j x i,j < m → cs j = some x → ¬ x.hnd i:=fun j x i hj hx hh=>by
  cases x with
  | bat b=>
   have hb : KBat n s S A b:=(h.ops j _ hj hx).1
   have h4:=hb.hold hh
   have e : j = t:=h.lk2 htm hj ht hx (i:=0) (by omega) (by show 0 < o.held;omega) (by show 0 < b.held;omega)
   subst e
   rw [ht] at hx;cases hx
   omega
  | ins p=>
   have hp : IOk n A p:=(h.ops j _ hj hx).1
   have hh : p.hnd i:=hh
   rcases hh.2.1 with c | c
   · have:=h.h1 3 j _ (by omega) hj hx (show p.Hd 3 from .inr ⟨rfl,.inr c⟩)
     rw [this] at hl;cases hl
   · obtain ⟨k,hk,hd⟩:=Zqf hp c
     have e : j = t:=h.lk2 htm hj ht hx (i:=k) (by omega) (by show k < o.held;omega) hd
     subst e
     rw [ht] at hx;cases hx
  | can p=>exact hh.elim
  | unk a b=>exact hh.elim
 have hA : ∀ i,¬ A i:=fun i hi=>by
  obtain ⟨j,x,hj,hx,hh⟩:=h.hnd i hi
  exact hno j x i hj hx hh
 have hSm : ∀ i,i ∈ sls S ↔ i < n ∧ s.st i ≠ 0:=fun i=>by
  constructor
  · intro hi
    obtain ⟨x,hx,rfl⟩:=List.mem_map.1 hi
    obtain ⟨k,q1,q2,q3,q4⟩:=h.sb.itm x hx
    have : x.slot.toNat = k:=by rw [q2];rfl
    rw [this];exact ⟨q1,q3⟩
  · rintro ⟨q1,q2⟩
    have:=(h.sb.all i q1 q2).resolve_left (hA i)
    exact List.mem_map.2 ⟨_,this,rfl⟩
 have hnd : (sls S).Nodup:=Yk h.sb.toSOk.nodup fun a ha b hb e=>by
  obtain ⟨k,_,q2,_⟩:=h.sb.itm a ha
  obtain ⟨k',_,q2',_⟩:=h.sb.itm b hb
  have e1 : a.slot.toNat = k:=by rw [q2];rfl
  have e2 : b.slot.toNat = k':=by rw [q2'];rfl
  rw [q2,q2',← e1,← e2,e]
 have hp : L.Perm (sls S):=ZbG g.nd hnd fun a=>by
  rw [g.mem a,hSm a]
  refine ⟨fun x=>⟨x.1,x.2.1⟩,fun x=>⟨x.1,x.2,fun j y hj hy hgo=>?_⟩⟩
  cases y with
  | bat b=>exact hno j _ a hj hy hgo.2
  | _=>exact hgo.elim
 refine ZbH (r:=fun i j=>leE (s.ent i) (s.ent j)) hp ?_ ?_ fun a ha b hb r1 r2=>?_
 · have:=g.srt
   rw [g.ents,List.pairwise_map] at this
   exact this
 · unfold sls
   rw [List.pairwise_map]
   refine h.sb.toSOk.srt.imp_of_mem fun {x y} hx hy hxy=>?_
   obtain ⟨k,_,q2,_⟩:=h.sb.itm x hx
   obtain ⟨k',_,q2',_⟩:=h.sb.itm y hy
   rw [Zpy] at hxy
   rw [ZaV]
   rw [q2,q2'] at hxy ⊢
   have hxy : (s.slot k).time < (s.slot k').time ∨ ((s.slot k).time = (s.slot k').time ∧ (s.slot k).seq < (s.slot k').seq):=hxy
   show (s.slot k).time < (s.slot k').time ∨ ((s.slot k).time = (s.slot k').time ∧ (s.slot k).seq ≤ (s.slot k').seq)
   omega
 · rw [ZaV] at r1 r2
   have r1 : (s.slot a).time < (s.slot b).time ∨ ((s.slot a).time = (s.slot b).time ∧ (s.slot a).seq ≤ (s.slot b).seq):=r1
   have r2 : (s.slot b).time < (s.slot a).time ∨ ((s.slot b).time = (s.slot a).time ∧ (s.slot b).seq ≤ (s.slot a).seq):=r2
   have ma:=(g.mem a).1 ha
   have mb:=(g.mem b).1 hb
   exact h.sb.sq a b ma.1 mb.1 ma.2.1 mb.2.1 (by omega)
theorem ZmS {M : Mod} {c : Cl} (hc : c.k = 3) (h : Int) : doM M c.cal h = ZiT M c.cal:=by
 unfold doM
 rw [if_neg (show ¬ c.cal.kind = 1 by show ¬ c.k = 1;omega),if_neg (show ¬ c.cal.kind = 2 by show ¬ c.k = 2;omega),if_pos (show c.cal.kind = 3 from hc)]
theorem Zav {n : Nat} {s : Sto} {S : List Item} {A : Nat → Prop} {o p : BOp} (ho : BOk n s S A o) (h1 : p.rv = o.rv) (h2 : p.e = o.e) : (Kop.bat p).done = false:=by
 show p.done = false
 unfold BOp.done
 rw [h1,h2,ho.res.1,ho.res.2];rfl
set_option maxHeartbeats 1000000 in
theorem GM.bat {m n K : Nat} {s : Sto} {cs : Nat → Option Kop} {S S' : List Item} {A A' : Nat → Prop} {L : List Nat} {M : Mod} (h : MS m n K s cs S A) (g : GM m n s S cs L M) (hK : K + 1 ≤ 20000) {t : Nat} {o : BOp} (htm : t < m) (ht : cs t = some (.bat o)) {c : Cl} (hc : (Kop.bat o).For c)
 (hs : StepK n K s (o.step s).2 S S' A A' (.bat o) (.bat (o.step s).1)) : ∃ L' M',GM m n (o.step s).2 S' (upd cs t (Kop.bat (o.step s).1).left) L' M' ∧ Eff (.bat (o.step s).1) c M M':=by
 obtain ⟨hok,hth⟩:=h.ops t _ htm ht
 have hok : KBat n s S A o:=hok
 obtain ⟨c1,rfl⟩ : c.k = 3 ∧ o.c = c:=hc
 have hbs:=BOp.cases h.sb hK hok hs.sb.toSOk
 have hfinN : ∀ p : BOp,p.eff = false → ∀ {L' : List Nat},GM m n (o.step s).2 S' (upd cs t (Kop.bat (o.step s).1).left) L' M → (o.step s).1 = p → ∃ L' M',GM m n (o.step s).2 S' (upd cs t (Kop.bat (o.step s).1).left) L' M' ∧ Eff (.bat (o.step s).1) o.c M M':=fun p hp L' hg e=>by
  refine ⟨L',M,hg,?_⟩
  unfold Eff
  rw [if_neg (show ¬ (Kop.bat (o.step s).1).eff = true by show ¬ (o.step s).1.eff = true;rw [e,hp];simp)]
 generalize (o.step s).1 = o' at *
 generalize (o.step s).2 = s' at *
 have oth : ∀ {j : Nat} {b : BOp},j < m → j ≠ t → cs j = some (.bat b) → o.held = 4 → b.held = 4 → False:=fun {j b} hj hne hb h4 h5=>hne (h.lk2 htm hj ht hb (i:=0) (by omega) (by show 0 < o.held;omega) (by show 0 < b.held;omega))
 have kept : ∀ p : BOp,o' = p → p.rem = o.rem → p.nf = o.nf → p.scn = o.scn → p.rv = o.rv → p.e = o.e → Same s s' → (ZtE p → BEv s' S' L p) → GM m n s' S' (upd cs t (Kop.bat o').left) L M:=fun p e q1 q2 q3 q4 q5 ks q6=>by
  subst e
  have hd:=Zav hok.ok q4 q5
  refine g.quiet h htm ht hs ks (fun i=>?_) (fun i b e hb=>?_) (fun i b e _ hb=>?_) (fun b e _ hsc=>?_)
  · constructor
    · rintro ⟨_,y1,y2⟩
      exact ⟨by rw [← q3];exact y1,(QZ q1 q2 i).1 y2⟩
    · rintro ⟨y1,y2⟩
      exact ⟨hd,by rw [q3];exact y1,(QZ q1 q2 i).2 y2⟩
  · cases e
    exact ⟨o',rfl,hd,(QZ q1 q2 i).2 hb⟩
  · cases e
    exact ⟨o,rfl,(QZ q1 q2 i).1 hb⟩
  · cases e
    exact q6 hsc
 have gave : ∀ (p : BOp) (i : Nat) (x : Item),o' = p → S = x :: S' → x = s.item i → o.scn = false → o.held = 4 → ¬ A i → p.rem = o.rem ++ [(i : Int)] → p.nf = o.nf → p.scn = o.scn → p.held = o.held → p.rv = o.rv → p.e = o.e → p.cl = false → p.c = o.c → s.st i ≠ 0 → (s'.st i = 2 ∨ s'.st i = 3) →
  (∀ j,j ≠ i → s'.st j = s.st j) → (∀ j,s'.ent j = s.ent j) → (∀ j,s'.gn j = s.gn j) → s'.next = s.next → (BEv s S L o → (p.ev.length : Int) ≤ o.c.m ∧ ∀ R,ZaG o.c.b o.c.m (s.ent i :: R) (Zdh o.ev) = ZaG o.c.b o.c.m R (Zdh p.ev)) → GM m n s' S' (upd cs t (Kop.bat o').left) L M:=
  fun p i x e hS hx q0 q4 hA q1 q2 q3 qh q5 q6 q7 q8 z0 z1 z2 z3 z4 z5 z6=>by
  subst e
  have hd:=Zav hok.ok q5 q6
  have hv:=g.bev t o htm ht ⟨q0,q4⟩
  have hnf:=(hok.ok.early q0).1
  have hnew : ∀ k,o'.hnd k ↔ o.hnd k ∨ k = i:=fun k=>by
   unfold BOp.hnd
   rw [q1,q2,hnf]
   constructor
   · rintro ⟨a,_,ha⟩
     rcases Zdn ha with ⟨y1,_⟩ | ⟨_,y2⟩
     · exact .inl ⟨a,Nat.zero_le _,y1⟩
     · right;omega
   · rintro (⟨a,_,ha⟩ | rfl)
     · exact ⟨a,Nat.zero_le _,by rw [List.getElem?_append_left (List.getElem?_eq_some_iff.1 ha).1];exact ha⟩
     · exact ⟨o.rem.length,Nat.zero_le _,by rw [List.getElem?_append_right (Nat.le_refl _),Nat.sub_self];rfl⟩
  have hst0 : ∀ k,s'.st k = 0 ↔ s.st k = 0:=fun k=>by
   by_cases ek : k = i
   · subst ek
     exact ⟨fun y=>by rcases z1 with z | z <;> (rw [y] at z;cases z),fun y=>absurd y z0⟩
   · rw [z2 k ek]
  refine g.calm h htm ht hs z3 z4 hst0 z5 (fun k=>?_) (fun k hk hck=>?_) (fun j b k hj hb hk=>?_) (fun b e _ hsc=>?_)
  · exact ⟨fun y=>(by have:=y.2.1;rw [q3,q0] at this;cases this),fun y=>(by have:=y.1;rw [q0] at this;cases this)⟩
  · by_cases ek : k = i
    · exact ⟨t,o',htm,by rw [Zb];exact YA hd,(hnew k).2 (.inr ek)⟩
    · rw [z2 k ek] at hck
      obtain ⟨j,b,hj,hb,hh⟩:=g.clm k hk hck
      by_cases ej : j = t
      · subst ej
        rw [ht] at hb;cases hb
        exact ⟨j,o',hj,by rw [Zb];exact YA hd,(hnew k).2 (.inl hh)⟩
      · exact ⟨j,b,hj,by rw [Zi _ _ _ _ ej];exact hb,hh⟩
  · by_cases ej : j = t
    · subst ej
      rw [Zb] at hb
      have:=(Zl hb).1
      cases this
      rcases (hnew k).1 hk with y | rfl
      · have hA':=(hok.ok.inh k y).2
        have ek : k ≠ i:=fun e=>hA (e ▸ hA')
        rw [z2 k ek];exact g.rem j o k hj ht y
      · exact z1
    · rw [Zi _ _ _ _ ej] at hb
      have hkb : KBat n s S A b:=(h.ops j _ hj hb).1
      exact (oth hj ej hb q4 (hkb.hold hk)).elim
  · cases e
    obtain ⟨w1,w2⟩:=z6 hv
    refine ⟨?_,fun R=>?_,by rw [q8];exact w1,fun y=>by rw [q7] at y;cases y⟩
    · rw [q1,Zjt,hv.l,hS,Zjm hx,List.append_assoc];rfl
    · rw [q1,Zjt,q8,List.map_append,List.append_assoc,show (rls o.rem).map s'.ent = (rls o.rem).map s.ent from List.map_congr_left fun k _=>z3 k]
      rw [← w2 R,← hv.ev (s.ent i :: R)]
      simp [z3]
 cases hbs with
 | bad hb e es eS=>
  subst es eS
  obtain ⟨b1,b2,b3,b4⟩:=hok.bd hb
  have hdn : (Kop.bat o').done = true:=by rw [e];show BOp.done _ = true;unfold BOp.done;simp
  refine ⟨L,M,g.quiet h htm ht hs (.refl _) (fun i=>⟨fun x=>(by rw [hdn] at x;cases x.1),fun x=>(by have:=x.1;rw [b2] at this;cases this)⟩) (fun i b e hb=>?_) (fun i b e hd=>by rw [hdn] at hd;cases hd) (fun b e hd=>by rw [hdn] at hd;cases hd),?_⟩
  · cases e
    obtain ⟨k,_,hg⟩:=hb
    rw [b3] at hg;simp at hg
  · unfold Eff
    rw [if_pos (show (Kop.bat o').eff = true by rw [e];rfl),ZmS c1]
    unfold ZiT
    rw [if_pos (show o.c.cal.max < 0 ∨ 64 < o.c.cal.max from hb)]
    show (M,Res.er 1) = (M,(Kop.bat o').fin)
    rw [e]
    show _ = (M,if (1 : Int) = 1 then Res.er 1 else ⟨0,0,false,Zdh o.ev⟩)
    rw [if_pos rfl]
 | no hb h1 h2 hl e es ks eS=>
  subst eS
  exact hfinN _ rfl (kept _ e rfl rfl rfl rfl rfl ks fun hsc=>by have:=hsc.2;dsimp only at this;omega) e
 | lock hb h1 h2 hl e ks eS=>
  subst eS
  obtain ⟨_,e2⟩:=hok.ok.early h1
  obtain ⟨e3,e4,e5⟩:=e2 h2
  refine hfinN _ rfl (kept _ e rfl rfl rfl rfl rfl ks fun hsc=>?_) e
  have h3 : o.held = 3:=by have:=hsc.2;dsimp only at this;omega
  have hL:=g.all_held h htm ht h3 h1 (by rw [h3] at hl;exact hl)
  refine ⟨?_,fun R=>?_,?_,fun y=>?_⟩
  · rw [hL];dsimp only;rw [e4];rfl
  · dsimp only;rw [e4,e5];rfl
  · dsimp only
    rw [e5]
    unfold BOp.bad at hb
    show ((0 : Nat) : Int) ≤ o.c.m
    omega
  · dsimp only at y;rw [e3] at y;cases y
 | take hb h1 h2 h3 hS hi hx hA hl hw e k1 k2 k3 k4 k5=>
  rename_i i
  have hv:=g.bev t o htm ht ⟨h1,h2⟩
  obtain ⟨v1,v2,v3⟩:=hv.cl h3
  have hst3 : s.st i ≠ 3:=fun y=>v3 (by rw [← hw];exact y)
  refine hfinN _ rfl (gave _ i o.it e hS hx h1 h2 hA rfl rfl rfl rfl rfl rfl rfl rfl hl (.inl (by rw [k2,if_pos rfl])) (fun j hj=>by rw [k2,if_neg hj]) (fun j=>?_) k3 k4 (fun _=>⟨?_,fun R=>?_⟩)) e
  · unfold Sto.ent
    rw [k1,k2,k3]
    by_cases ej : j = i
    · subst ej;rw [if_pos rfl,decide_eq_false (show ¬ (2 : Int) = 3 by decide),decide_eq_false hst3]
    · rw [if_neg ej]
  · dsimp only;rw [List.length_append,List.length_singleton];omega
  · dsimp only
    rw [ZaG]
    have et : (s.ent i).time = o.it.time:=by rw [hx];rfl
    have ed : (s.ent i).dead = false:=decide_eq_false hst3
    rw [if_pos ⟨by rw [et];exact v1,by rw [ZfX];exact v2⟩,ed,if_neg Bool.false_ne_true]
    unfold Zdh
    rw [List.map_append]
    rfl
 | miss hb h1 h2 h3 hS hi hx hw e ks eS=>
  subst eS
  have hv:=g.bev t o htm ht ⟨h1,h2⟩
  exact hfinN _ rfl (kept _ e rfl rfl rfl rfl rfl ks fun _=>⟨hv.l,fun R=>by rw [ks.ents];exact hv.ev R,hv.len,fun y=>by cases y⟩) e
 | drop hb h1 h2 h3 hS hi hx hA hcn hst e ks=>
  rename_i i x w
  refine hfinN _ rfl (gave _ i x e hS hx h1 h2 hA rfl rfl rfl rfl rfl rfl rfl rfl (by rw [hst];decide) (.inr (by rw [ks.st];exact hst)) (fun j _=>ks.st j) ks.ent ks.gn ks.next fun hv=>⟨hv.len,fun R=>?_⟩) e
  rw [ZaG]
  have et : (s.ent i).time = x.time:=by rw [hx];rfl
  have ed : (s.ent i).dead = true:=decide_eq_true hst
  have hlen:=hv.len
  rw [if_pos ⟨by rw [et];exact hcn.1,by rw [ZfX];have:=hcn.2;omega⟩,ed,if_pos rfl]
 | claim hb h1 h2 h3 hS hi hx hA hcn hst e ks kw eS=>
  subst eS
  have hv:=g.bev t o htm ht ⟨h1,h2⟩
  have hlen:=hv.len
  exact hfinN _ rfl (kept _ e rfl rfl rfl rfl rfl ks fun _=>⟨hv.l,fun R=>by rw [ks.ents];exact hv.ev R,hv.len,fun _=>⟨hcn.1,by have:=hcn.2;dsimp only;omega,hst⟩⟩) e
 | fin hb h1 h2 h3 hcn e ks eS=>
  subst eS
  have hv:=g.bev t o htm ht ⟨h1,h2⟩
  have hnf:=(hok.ok.early h1).1
  have hd : (Kop.bat o').done = false:=Zav hok.ok (by rw [e]) (by rw [e])
  have hhnd : ∀ k,o'.hnd k ↔ o.hnd k:=fun k=>QZ (by rw [e]) (by rw [e]) k
  have hrl : ∀ k,o.hnd k ↔ k ∈ rls o.rem:=fun k=>by
   unfold BOp.hnd rls
   rw [hnf]
   constructor
   · rintro ⟨a,_,ha⟩
     exact List.mem_map.2 ⟨_,List.mem_of_getElem? ha,by omega⟩
   · intro hk
     obtain ⟨y,hy,ey⟩:=List.mem_map.1 hk
     obtain ⟨a,ha⟩:=List.mem_iff_getElem?.1 hy
     obtain ⟨q,_,rfl⟩:=hok.ok.int a y ha
     exact ⟨a,Nat.zero_le _,by rw [ha,show q = k by omega]⟩
  have hndL:=g.nd
  rw [hv.l] at hndL
  have hdis:=List.nodup_append.1 hndL
  have hbl : ZaG o.c.b o.c.m M.ents [] = ((sls S').map s.ent,Zdh o.ev):=by
   rw [g.ents,hv.l,List.map_append,hv.ev]
   cases S' with
   | nil=>rfl
   | cons x T=>
    obtain ⟨i,hi,hx,_⟩:=h.sb.itm x List.mem_cons_self
    rw [Zjm hx,List.map_cons,ZaG]
    have et : (s.ent i).time = x.time:=by rw [hx];rfl
    rw [if_neg fun y=>?_]
    rw [et,ZfX] at y
    rcases hcn x T rfl with z | z <;> omega
  refine ⟨sls S',{ M with ents:=(sls S').map s.ent },⟨g.cap,g.next.trans ks.next.symm,by rw [ks.ents],hdis.2.1,fun k=>?_,?_,fun x hx=>(g.iss x hx).same ks,fun k hk hck=>?_,fun j b k hj hb hk=>?_,fun j b hj hb hsc=>?_⟩,?_⟩
  · rw [ks.st]
    constructor
    · intro hk
      have hkL : k ∈ L:=by rw [hv.l];exact List.mem_append_right _ hk
      obtain ⟨m1,m2,m3⟩:=(g.mem k).1 hkL
      refine ⟨m1,m2,fun j x hj hx hgo=>?_⟩
      by_cases ej : j = t
      · subst ej
        rw [Zb] at hx
        rw [(Zl hx).1] at hgo
        exact hdis.2.2 k ((hrl k).1 ((hhnd k).1 hgo.2)) k hk rfl
      · rw [Zi _ _ _ _ ej] at hx;exact m3 j x hj hx hgo
    · rintro ⟨m1,m2,m3⟩
      have hkL : k ∈ L:=(g.mem k).2 ⟨m1,m2,fun j x hj hx hgo=>by
       by_cases ej : j = t
       · subst ej
         rw [ht] at hx;cases hx
         have:=hgo.1
         rw [h1] at this;cases this
       · exact m3 j x hj (by rw [Zi _ _ _ _ ej];exact hx) hgo⟩
      rw [hv.l] at hkL
      rcases List.mem_append.1 hkL with y | y
      · exact absurd (show (Kop.bat o').gone k from ⟨by rw [e],(hhnd k).2 ((hrl k).2 y)⟩) (m3 t _ htm (by rw [Zb];exact YA hd))
      · exact y
  · have:=g.srt
    rw [g.ents,hv.l,List.map_append] at this
    exact (List.pairwise_append.1 this).2.1
  · rw [ks.st] at hck
    obtain ⟨j,b,hj,hb,hh⟩:=g.clm k hk hck
    by_cases ej : j = t
    · subst ej
      rw [ht] at hb;cases hb
      exact ⟨j,o',hj,by rw [Zb];exact YA hd,(hhnd k).2 hh⟩
    · exact ⟨j,b,hj,by rw [Zi _ _ _ _ ej];exact hb,hh⟩
  · rw [ks.st]
    by_cases ej : j = t
    · subst ej
      rw [Zb] at hb
      have:=(Zl hb).1
      cases this
      exact g.rem j o k hj ht ((hhnd k).1 hk)
    · rw [Zi _ _ _ _ ej] at hb
      exact g.rem j b k hj hb hk
  · by_cases ej : j = t
    · subst ej
      rw [Zb] at hb
      have:=(Zl hb).1
      cases this
      have:=hsc.1
      rw [e] at this;cases this
    · rw [Zi _ _ _ _ ej] at hb
      exact (oth hj ej hb h2 hsc.2).elim
  · unfold Eff
    rw [if_pos (show (Kop.bat o').eff = true by rw [e];rfl),ZmS c1]
    unfold ZiT
    rw [if_neg (show ¬ (o.c.cal.max < 0 ∨ 64 < o.c.cal.max) from hb),show ZaG o.c.cal.bound o.c.cal.max M.ents [] = ((sls S').map s.ent,Zdh o.ev) from hbl]
    show (_,(⟨0,0,false,Zdh o.ev⟩ : Res)) = (_,(Kop.bat o').fin)
    rw [e]
    show (_,(⟨0,0,false,Zdh o.ev⟩ : Res)) = (_,if o.e = 1 then Res.er 1 else ⟨0,0,false,Zdh o.ev⟩)
    rw [if_neg (by rw [hok.ok.res.2];decide)]
 | free hb h1 h2 hi hg e k1 k2 k3 k4 k5 eS=>
  rename_i i
  subst eS
  have h4:=hok.all4 h2
  have hd : (Kop.bat o').done = false:=Zav hok.ok (by rw [e]) (by rw [e])
  have hin : o.hnd i:=⟨o.nf,Nat.le_refl _,hg⟩
  have hnd' : ∀ k,o'.hnd k ↔ o.hnd k ∧ k ≠ i:=fun k=>by
   have hnd:=hok.ok.nd
   rw [List.drop_eq_getElem_cons h2,List.nodup_cons] at hnd
   have hgi : o.rem[o.nf] = (i : Int):=by rw [List.getElem?_eq_getElem h2] at hg;exact Option.some.inj hg
   rw [hgi] at hnd
   rw [e]
   unfold BOp.hnd
   dsimp only
   constructor
   · rintro ⟨a,ha,hg2⟩
     refine ⟨⟨a,by omega,hg2⟩,fun ek=>hnd.1 ?_⟩
     subst ek
     refine List.mem_of_getElem? (i:=a - (o.nf + 1)) ?_
     rw [List.getElem?_drop,show o.nf + 1 + (a - (o.nf + 1)) = a by omega];exact hg2
   · rintro ⟨⟨a,ha,hg2⟩,hne⟩
     refine ⟨a,?_,hg2⟩
     rcases Nat.lt_or_ge o.nf a with y | y
     · exact y
     · have ea : a = o.nf:=by omega
       subst ea
       rw [hg] at hg2
       have:=Option.some.inj hg2
       omega
  have hiL : i ∉ L:=fun y=>((g.mem i).1 y).2.2 t _ htm ht ⟨h1,hin⟩
  have hent : ∀ k,k ≠ i → s'.ent k = s.ent k:=fun k hk=>by unfold Sto.ent;rw [k1,k2,k3,if_neg hk,if_neg hk,if_neg hk]
  refine hfinN _ rfl (L':=L) ⟨g.cap,g.next.trans k4.symm,?_,g.nd,fun k=>?_,g.srt,fun x hx=>?_,fun k hk hck=>?_,fun j b k hj hb hk=>?_,fun j b hj hb hsc=>?_⟩ e
  · rw [g.ents]
    exact List.map_congr_left fun k hk=>(hent k fun ek=>hiL (ek ▸ hk)).symm
  · by_cases ek : k = i
    · subst ek
      exact ⟨fun y=>absurd y hiL,fun y=>absurd (by rw [k2,if_pos rfl]) y.2.1⟩
    · rw [g.mem k,k2,if_neg ek]
      refine ⟨fun ⟨a,b,d⟩=>⟨a,b,fun j x hj hx hgo=>?_⟩,fun ⟨a,b,d⟩=>⟨a,b,fun j x hj hx hgo=>?_⟩⟩
      · by_cases ej : j = t
        · subst ej
          rw [Zb] at hx
          rw [(Zl hx).1] at hgo
          exact d j _ hj ht ⟨h1,((hnd' k).1 hgo.2).1⟩
        · rw [Zi _ _ _ _ ej] at hx;exact d j x hj hx hgo
      · by_cases ej : j = t
        · subst ej
          rw [ht] at hx;cases hx
          exact d j _ hj (by rw [Zb];exact YA hd) (show (Kop.bat o').gone k from ⟨by rw [e];exact h1,(hnd' k).2 ⟨hgo.2,ek⟩⟩)
        · exact d j x hj (by rw [Zi _ _ _ _ ej];exact hx) hgo
  · obtain ⟨j,q,q1,q2,q3,q4,q5⟩:=g.iss x hx
    refine ⟨j,q,q1,q2,q3,?_,fun y=>?_⟩
    · rw [k3];split <;> omega
    · rw [k3] at y
      by_cases ej : j = i
      · rw [if_pos ej] at y;omega
      · rw [if_neg ej] at y
        rw [k2,if_neg ej];exact q5 y
  · rw [k2] at hck
    by_cases ek : k = i
    · rw [if_pos ek] at hck;cases hck
    · rw [if_neg ek] at hck
      obtain ⟨j,b,hj,hb,hh⟩:=g.clm k hk hck
      by_cases ej : j = t
      · subst ej
        rw [ht] at hb;cases hb
        exact ⟨j,o',hj,by rw [Zb];exact YA hd,(hnd' k).2 ⟨hh,ek⟩⟩
      · exact ⟨j,b,hj,by rw [Zi _ _ _ _ ej];exact hb,hh⟩
  · by_cases ej : j = t
    · subst ej
      rw [Zb] at hb
      have:=(Zl hb).1
      cases this
      obtain ⟨y1,y2⟩:=(hnd' k).1 hk
      rw [k2,if_neg y2]
      exact g.rem j o k hj ht y1
    · rw [Zi _ _ _ _ ej] at hb
      have hkb : KBat n s S' A b:=(h.ops j _ hj hb).1
      exact (oth hj ej hb h4 (hkb.hold hk)).elim
  · by_cases ej : j = t
    · subst ej
      rw [Zb] at hb
      have:=(Zl hb).1
      cases this
      have:=hsc.1
      rw [e,h1] at this;cases this
    · rw [Zi _ _ _ _ ej] at hb
      exact (oth hj ej hb h4 hsc.2).elim
 | unl hb h1 h2 e ks eS=>
  subst eS
  have hno : ∀ k,¬ o.hnd k:=fun k ⟨a,ha,hg⟩=>by have:=(List.getElem?_eq_some_iff.1 hg).1;omega
  have hhnd : ∀ k,o'.hnd k ↔ o.hnd k:=fun k=>QZ (by rw [e]) (by rw [e]) k
  refine hfinN _ rfl (g.quiet h htm ht hs ks (fun i=>⟨fun x=>absurd ((hhnd i).1 x.2.2) (hno i),fun x=>absurd x.2 (hno i)⟩) (fun i b ee hb=>?_) (fun i b ee _ hb=>?_) (fun b ee _ hsc=>?_)) e
  · cases ee;exact absurd hb (hno i)
  · cases ee;exact absurd ((hhnd i).1 hb) (hno i)
  · cases ee
    have:=hsc.1
    rw [e,h1] at this;cases this
theorem GM.step {m n K : Nat} {s : Sto} {cs : Nat → Option Kop} {S : List Item} {A : Nat → Prop} {L : List Nat} {M : Mod} (h : MS m n K s cs S A) (g : GM m n s S cs L M) (hK : K + 1 ≤ 20000) {t : Nat} {o : Kop} (htm : t < m) (ht : cs t = some o) {c : Cl} (hc : o.For c) :
 ∃ S' A' L' M',StepK n K s (o.step s).2 S S' A A' o (o.step s).1 ∧ MS m n (K + 1) (o.step s).2 (upd cs t (o.step s).1.left) S' A' ∧ GM m n (o.step s).2 S' (upd cs t (o.step s).1.left) L' M' ∧ Eff (o.step s).1 c M M':=by
 obtain ⟨S',A',hs,hm⟩:=h.step hK htm ht
 cases o with
 | ins o=>
  obtain ⟨L',M',g1,g2⟩:=g.ins h hK htm ht hc hs
  exact ⟨S',A',L',M',hs,hm,g1,g2⟩
 | can o=>
  obtain ⟨L',M',g1,g2⟩:=g.can h htm ht hc hs
  exact ⟨S',A',L',M',hs,hm,g1,g2⟩
 | bat o=>
  obtain ⟨L',M',g1,g2⟩:=g.bat h hK htm ht hc hs
  exact ⟨S',A',L',M',hs,hm,g1,g2⟩
 | unk th z=>
  obtain ⟨L',M',g1,g2⟩:=g.unk h htm ht hc hs
  exact ⟨S',A',L',M',hs,hm,g1,g2⟩
end Go.Proofs.YtdjnjchpgccbiaaGreat.Abs
