/- An insertion that runs alone in a prepared store. -/
import Derived.Test.YtcffiehcdadimaaGreatMG
import Derived.Test.YtcffiehcdadimaaGreatMI
import Derived.Test.YtcffiehcdadimaaGreatJB
import Derived.Test.YtcffiehcdadimaaGreatM34
import Derived.Test.YtcffiehcdadimaaGreatMF
namespace Go.Proofs.YtcffiehcdadimaaGreat.Abs
set_option linter.unusedSimpArgs false
set_option linter.unusedVariables false
theorem step_blk {n : Nat} {s : Sto} {A : Nat → Prop} {o : IOp} (ho : IOk n A o) (hl : ∀ i q,o.pc.mx = some (i,q) → (s.m.held i).1 = false) :
 (o.step s).1.blk = false ∧ ((o.step s).1.eff = true → (o.pc = .start ∧ (o.t < 0 ∨ 1152921504606846976 < o.t) ∧ (o.step s).1.e = 1) ∨ (o.pc = .alloc ∧ (o.step s).1.e ≠ 1)):=by
 obtain ⟨shp,th0,early,tm,full,won,hand⟩:=ho
 obtain ⟨th,x,pc,hd,hh,e,ok,ef,bl⟩:=o
 dsimp only at shp hl early
 have lock : ∀ (i : Nat) (p q : PC),pc = p → p.mx = some (i,q) → (IOp.step ⟨th,x,pc,hd,hh,e,ok,ef,bl⟩ s) = (IOp.lock ⟨th,x,pc,hd,hh,e,ok,ef,bl⟩ s i q) →
  (IOp.step ⟨th,x,pc,hd,hh,e,ok,ef,bl⟩ s).1.blk = false ∧ ((IOp.step ⟨th,x,pc,hd,hh,e,ok,ef,bl⟩ s).1.eff = true → (pc = .start ∧ (x < 0 ∨ 1152921504606846976 < x) ∧ (IOp.step ⟨th,x,pc,hd,hh,e,ok,ef,bl⟩ s).1.e = 1) ∨ (pc = .alloc ∧ (IOp.step ⟨th,x,pc,hd,hh,e,ok,ef,bl⟩ s).1.e ≠ 1)):=by
  rintro i p q rfl hmx he
  rw [he]
  unfold IOp.lock
  have hl2 : (s.m.lock th i).2 = true:=by unfold Mem.lock;rw [if_neg (by rw [hl i q hmx];simp)]
  dsimp only
  rw [if_pos hl2]
  exact ⟨rfl,fun y=>by cases y⟩
 have alloc : pc = .alloc → (IOp.step ⟨th,x,pc,hd,hh,e,ok,ef,bl⟩ s).1.blk = false ∧ ((IOp.step ⟨th,x,pc,hd,hh,e,ok,ef,bl⟩ s).1.eff = true → (pc = .start ∧ (x < 0 ∨ 1152921504606846976 < x) ∧ (IOp.step ⟨th,x,pc,hd,hh,e,ok,ef,bl⟩ s).1.e = 1) ∨ (pc = .alloc ∧ (IOp.step ⟨th,x,pc,hd,hh,e,ok,ef,bl⟩ s).1.e ≠ 1)):=by
  rintro rfl
  obtain ⟨rfl,rfl,rfl⟩:=early rfl
  unfold IOp.step
  dsimp only
  split
  · exact ⟨rfl,fun _=>.inr ⟨rfl,by simp⟩⟩
  · exact ⟨rfl,fun _=>.inr ⟨rfl,by simp⟩⟩
 cases shp with
 | start=>
  unfold IOp.step
  dsimp only
  by_cases hb : x < 0 ∨ 1152921504606846976 < x
  · rw [if_pos hb];exact ⟨rfl,fun _=>.inl ⟨rfl,hb,rfl⟩⟩
  · rw [if_neg hb];exact ⟨rfl,fun y=>by cases y⟩
 | top=>exact lock 0 .top .conf rfl rfl rfl
 | r0=>exact lock 1 .rungs .choose rfl rfl rfl
 | r1=>exact lock 1 .rungs .choose rfl rfl rfl
 | bottom=>exact lock 2 .bottom .arena rfl rfl rfl
 | a0=>exact lock 3 .arena .alloc rfl rfl rfl
 | a1=>exact lock 3 .arena .alloc rfl rfl rfl
 | a2=>exact lock 3 .arena .alloc rfl rfl rfl
 | conf=>exact ⟨rfl,fun y=>by cases y⟩
 | undo=>exact ⟨rfl,fun y=>by cases y⟩
 | choose=>exact ⟨rfl,fun y=>by cases y⟩
 | l0=>exact alloc rfl
 | l1=>exact alloc rfl
 | l2=>exact alloc rfl
 | v0=>exact ⟨rfl,fun y=>by cases y⟩
 | v1=>exact ⟨rfl,fun y=>by cases y⟩
 | v2=>exact ⟨rfl,fun y=>by cases y⟩
 | p0=>exact ⟨rfl,fun y=>by cases y⟩
 | p1=>exact ⟨rfl,fun y=>by cases y⟩
 | p2=>exact ⟨rfl,fun y=>by cases y⟩
 | rel=>exact ⟨rfl,fun y=>by cases y⟩
def BadT (t : Int) : Prop:=t < 0 ∨ 1152921504606846976 < t
def cs1 (o : IOp) : Nat → Option IOp:=upd (fun _=>none) 3 o.left
structure AI (n : Nat) (s0 : Sto) (t : Int) (k : Nat) (o : IOp) (s : Sto) : Prop where
 ci : ∃ S A,CI 4 n (241 + k) s (cs1 o) S A
 li : LI 4 s (cs1 o) s0.q.topStart 0
 tm : o.t = t
 rem : o.pc.rem + k ≤ 9
 st : ((∀ i,s.slot i = s0.slot i ∧ s.st i = s0.st i ∧ s.gn i = s0.gn i) ∧ s.idle = s0.idle ∧ s.next = s0.next ∧ (o.pc.late = true → (o.e = 1 ∧ BadT t) ∨ (o.e = 10 ∧ s0.idle = [] ∧ ¬ BadT t))) ∨
  (o.pc.late = true ∧ o.e = 0 ∧ ¬ BadT t ∧ ∃ (l : List Int) (i : Nat),s0.idle = l ++ [(i : Int)] ∧ i < n ∧ s0.st i = 0 ∧ slotH o.h = i ∧ genH o.h = s.gn i ∧ s.st i = 1 ∧ s.slot i = ⟨0,0,t,s0.next⟩ ∧ s.idle = l)
theorem AI.step {n : Nat} {s0 : Sto} {t : Int} {k : Nat} {o : IOp} {s : Sto} (h : AI n s0 t k o s) (hr : o.pc ≠ .ret) : AI n s0 t (k + 1) (o.step s).1 (o.step s).2 ∧ (o.step s).1.blk = false ∧ (o.step s).1.eff = (!o.pc.late && (o.step s).1.pc.late) ∧ ∃ S A,SB n s S A (241 + k) ∧ s.m.Thr ∧ IOk n A o:=by
 obtain ⟨S,A,hci⟩:=h.ci
 have hk : k ≤ 9:=by have:=h.rem;omega
 have hl : o.left = some o:=by
  unfold IOp.left
  split
  · next e=>exact absurd e hr
  · rfl
 have hc3 : cs1 o 3 = some o:=by unfold cs1;rw [upd_same,hl]
 obtain ⟨hok,hth⟩:=hci.ops 3 o (by omega) hc3
 have hw : s.m.word 0 = s0.q.topStart:=by rw [hci.sb.top,h.li.ts]
 have hfree : ∀ i q,o.pc.mx = some (i,q) → (s.m.held i).1 = false:=fun i q hm=>by
  cases hb : (s.m.held i).1 with
  | false=>rfl
  | true=>
   have hi4 : i < 4:=by rcases pc_mx hm with ⟨_,e,_⟩ | ⟨_,e,_⟩ | ⟨_,e,_⟩ | ⟨_,e,_⟩ <;> omega
   obtain ⟨j,hj,p,hp,hd⟩:=h.li.h2 i hi4 hb
   have e : j = 3:=Classical.byContradiction fun e=>by unfold cs1 at hp;rw [upd_ne _ _ _ _ e] at hp;cases hp
   subst e
   rw [hc3] at hp;cases hp
   have:=hd_mx hok.shp hd hm
   omega
 obtain ⟨hbl,hef⟩:=step_blk (s:=s) hok hfree
 obtain ⟨r1,r2⟩:=step_rem (s:=s) hok (h.li.reg 3 o (by omega) hc3) hw
 have hrem : (o.step s).1.pc.rem < o.pc.rem:=by
  cases hm : o.pc.mx with
  | none=>exact r1 hm
  | some z=>exact (r2 z.1 z.2 hm).1 (hfree z.1 z.2 hm)
 have hse:=step_eff (s:=s) hok
 obtain ⟨S',A',hci'⟩:=hci.step (by omega) (by omega) hc3
 have hli':=h.li.step hci (by omega) (by omega) hc3
 have ecs : upd (cs1 o) 3 (o.step s).1.left = cs1 (o.step s).1:=by
  funext j
  unfold cs1
  by_cases e : j = 3
  · subst e;rw [upd_same,upd_same]
  · rw [upd_ne _ _ _ _ e,upd_ne _ _ _ _ e,upd_ne _ _ _ _ e]
 rw [ecs] at hci' hli'
 obtain ⟨_,_,_,_,_,_,b5,b6⟩:=IOp.step_ok hci.sb (by omega) hci.thr hok
 have hrm:=h.rem
 refine ⟨⟨⟨S',A',hci'⟩,hli',b6.trans h.tm,by omega,?_⟩,hbl,hse.eff,S,A,hci.sb,hci.thr,hok⟩
 have hgood : o.pc ≠ .start → ¬ BadT t:=fun hne hb=>by
  have h1:=hok.tm hne
  rw [h.tm] at h1
  unfold BadT at hb
  omega
 rcases step_store hci.sb hok with ⟨a1,a2,a3,a4,a5⟩ | ⟨l,i,c1,c2,c3,c4,c5,c6,c7⟩
 · rcases h.st with ⟨d1,d2,d3,d4⟩ | ⟨d1,d2,d3,l,i,d4,d5,d6,d7,d8,d9,d10,d11⟩
   · left
     refine ⟨fun i=>⟨(a1 i).trans (d1 i).1,(a4 i).1.trans (d1 i).2.1,(a4 i).2.trans (d1 i).2.2⟩,a2.trans d2,a3.trans d3,fun hlate=>?_⟩
     cases hlo : o.pc.late with
     | true=>rw [(hse.keep hlo).1];exact d4 hlo
     | false=>
      have he:=hse.eff
      rw [hlo,hlate] at he
      rcases a5 he with e1 | ⟨e10,hid⟩
      · rcases hef he with ⟨_,f2,_⟩ | ⟨_,f2⟩
        · exact .inl ⟨e1,by unfold BadT;rw [← h.tm];exact f2⟩
        · exact absurd e1 f2
      · rcases hef he with ⟨_,_,f3⟩ | ⟨f1,_⟩
        · rw [e10] at f3;cases f3
        · exact .inr ⟨e10,by rw [← d2];exact hid,hgood (by rw [f1];simp)⟩
   · right
     obtain ⟨k1,k2,k3⟩:=hse.keep d1
     exact ⟨k3,by rw [k1];exact d2,d3,l,i,d4,d5,d6,by rw [k2];exact d7,by rw [k2,(a4 i).2];exact d8,by rw [(a4 i).1];exact d9,by rw [a1];exact d10,by rw [a2];exact d11⟩
 · right
   have hlo : o.pc.late = false ∧ (o.step s).1.pc.late = true:=by
    have he:=hse.eff
    rw [c5] at he
    cases h1 : o.pc.late with
    | true=>rw [h1] at he;cases he
    | false=>
     refine ⟨rfl,?_⟩
     cases h2 : (o.step s).1.pc.late with
     | true=>rfl
     | false=>rw [h1,h2] at he;cases he
   rcases h.st with ⟨d1,d2,d3,d4⟩ | ⟨d1,_⟩
   · rw [d2] at c1
     obtain ⟨t1,_⟩:=touches_same o.th [3] s.m
     have hb:=hci.sb
     have hn:=hb.n12
     have hkb:=hb.kb
     have hwd:=hb.wd i c2
     have hwl : i + 1 < (s.touch o.th [3]).m.words.length:=by show i + 1 < (s.m.touches o.th [3]).words.length;rw [t1,hb.nw];omega
     have ew : ∀ j,(s.touch o.th [3]).m.word j = s.m.word j:=fun j=>by unfold Mem.word;show ((s.m.touches o.th [3]).words[j]?).getD 0 = _;rw [t1]
     have egn : ∀ j,(s.touch o.th [3]).gn j = s.gn j:=fun j=>by unfold Sto.gn;rw [ew]
     have hw':=alloc_word hwl o.th o.t l (by rw [ew];exact hwd.1)
     have hsl:=slotH_mk (g:=s.gn i) (i:=i) ⟨by have:=hwd.1;unfold Sto.gn;omega,by have:=hwd.2;omega⟩ (by omega)
     refine ⟨hlo.2,c6,hgood (fun e=>?_),l,i,c1,c2,by rw [← (d1 i).2.1];exact c3,by rw [c7];exact hsl.1,?_,?_,?_,by rw [c4];rfl⟩
     · have he:=hef c5
       rcases he with ⟨_,_,f3⟩ | ⟨f1,_⟩
       · rw [c6] at f3;cases f3
       · rw [e] at f1;cases f1
     · rw [c7,hsl.2,c4,(hw' i).1,egn]
     · rw [c4,(hw' i).2,if_pos rfl]
     · rw [c4]
       rw [show ((s.touch o.th [3]).alloc1 o.th o.t l i).slot i = ⟨0,0,o.t,s.next⟩ from (alloc1_slot (s:=s.touch o.th [3]) (by show i < s.slots.length;rw [hb.ns];exact c2) i).trans (if_pos rfl),h.tm,d3]
   · rw [hlo.1] at d1;cases d1
theorem AI.zero {n : Nat} {s0 : Sto} {S : List Item} (hr : Ready n s0 S) (t : Int) : AI n s0 t 0 (.new 3 t) s0:=by
 have h0:=PI.zero hr []
 obtain ⟨S',A,hci⟩:=h0.ci
 have e : upd (ps0 [] s0).cs 3 (some (IOp.new ((3 : Nat) : Int) t)) = cs1 (.new 3 t):=by
  funext j
  unfold cs1
  by_cases e : j = 3
  · subst e;rw [upd_same,upd_same];rfl
  · rw [upd_ne _ _ _ _ e,upd_ne _ _ _ _ e];rfl
 have h1:=hci.new (t:=3) rfl t
 have h2:=h0.li.new (t:=3) rfl t
 rw [e] at h1 h2
 exact ⟨⟨S',A,h1⟩,h2,rfl,by show 9 + 0 ≤ 9;omega,.inl ⟨fun i=>⟨rfl,rfl,rfl⟩,rfl,rfl,fun y=>by cases y⟩⟩
def runA (t : Int) (s : Sto) : Nat → IOp × Sto
 | 0=>(.new 3 t,s)
 | k + 1=>(runA t s k).1.step (runA t s k).2
theorem runA_ok {n : Nat} {s0 : Sto} {S : List Item} (hr : Ready n s0 S) (t : Int) : ∀ k,(∀ j,j < k → (runA t s0 j).1.pc ≠ .ret) → AI n s0 t k (runA t s0 k).1 (runA t s0 k).2
 | 0,_=>AI.zero hr t
 | k + 1,h=>((runA_ok hr t k fun j hj=>h j (by omega)).step (h k (by omega))).1
theorem runA_end {n : Nat} {s0 : Sto} {S : List Item} (hr : Ready n s0 S) (t : Int) : ∃ m,1 ≤ m ∧ m ≤ 9 ∧ (∀ j,j < m → (runA t s0 j).1.pc ≠ .ret) ∧ (runA t s0 m).1.pc = .ret:=by
 have hex : ∃ k,(runA t s0 k).1.pc = .ret:=Classical.byContradiction fun hno=>by
  have h:=runA_ok hr t 10 fun j _ e=>hno ⟨j,e⟩
  have:=h.rem
  omega
 obtain ⟨m,h1,h2⟩:=least hex
 have h3 : ∀ j,j < m → (runA t s0 j).1.pc ≠ .ret:=fun j hj e=>by have:=h2 j e;omega
 have h4:=(runA_ok hr t m h3).rem
 refine ⟨m,?_,by omega,h3,h1⟩
 rcases Nat.eq_zero_or_pos m with e | e
 · subst e;cases h1
 · exact e
structure AloneR (n : Nat) (s0 : Sto) (S : List Item) (t e h : Int) (s1 : Sto) (S1 : List Item) : Prop where
 sb : SB n s1 S1 (fun _=>False) 20000
 bad : e = 1 ↔ BadT t
 or : (e ≠ 0 ∧ s1.pics = s0.pics ∧ s1.idle = s0.idle ∧ s1.next = s0.next ∧ S1.length = S.length ∧ (e = 1 ∨ (e = 10 ∧ liveN s0.pics = n))) ∨
  (e = 0 ∧ ∃ i : Nat,i < n ∧ slotH h = i ∧ liveN s0.pics ≠ n ∧ S1.length = S.length + 1 ∧ s1.pic i = ⟨genH h,1,t,s0.next⟩ ∧ (s0.pic i).state = 0)
theorem alone_end {n : Nat} {s0 : Sto} {S : List Item} (hr : Ready n s0 S) {t : Int} {k : Nat} {o : IOp} {s : Sto} (h : AI n s0 t k o s) (hk : k ≤ 9) (ho : o.pc = .ret) : ∃ S1,AloneR n s0 S t o.e o.h s S1:=by
 obtain ⟨S1,A,hci⟩:=h.ci
 have hn : ∀ j,cs1 o j = none:=fun j=>by
  unfold cs1
  by_cases e : j = 3
  · subst e;rw [upd_same];unfold IOp.left;rw [ho]
  · rw [upd_ne _ _ _ _ e]
 have hA : A = fun _=>False:=by
  funext i
  refine propext ⟨fun x=>?_,fun x=>x.elim⟩
  obtain ⟨j,p,hj,hp,_⟩:=hci.hnd i x
  rw [hn j] at hp;cases hp
 subst hA
 have hb:=hci.sb
 have l0:=hr.ok.toSOk.live_idle
 have l1:=hb.toSOk.live_idle
 have i0:=hr.ok.toSOk.items_len
 have i1:=hb.toSOk.items_len
 have hlate : o.pc.late = true:=by rw [ho];rfl
 refine ⟨S1,hb.mono (by omega) (by omega),?_,?_⟩
 · rcases h.st with ⟨_,_,_,a4⟩ | ⟨_,a2,a3,_⟩
   · rcases a4 hlate with ⟨b1,b2⟩ | ⟨b1,_,b2⟩
     · exact ⟨fun _=>b2,fun _=>b1⟩
     · exact ⟨fun y=>by omega,fun y=>absurd y b2⟩
   · exact ⟨fun y=>by omega,fun y=>absurd y a3⟩
 · rcases h.st with ⟨a1,a2,a3,a4⟩ | ⟨_,a2,a3,l,i,b1,b2,b3,b4,b5,b6,b7,b8⟩
   · left
     have hp : s.pics = s0.pics:=by
      unfold Sto.pics
      rw [hb.ns,hr.ok.ns]
      refine List.map_congr_left fun i _=>?_
      obtain ⟨c1,c2,c3⟩:=a1 i
      unfold Sto.pic
      rw [c1]
      unfold Sto.st at c2;unfold Sto.gn at c3
      rw [c2,c3]
     have he:=a4 hlate
     refine ⟨by rcases he with ⟨b1,_⟩ | ⟨b1,_⟩ <;> omega,hp,a2,a3,by rw [i1,i0,hp],?_⟩
     rcases he with ⟨b1,_⟩ | ⟨b1,b2,_⟩
     · exact .inl b1
     · refine .inr ⟨b1,?_⟩
       rw [b2] at l0
       simpa using l0
   · right
     have hl0 : s0.idle.length = l.length + 1:=by rw [b1];simp
     rw [b8] at l1
     refine ⟨a2,i,b2,b4,by omega,by omega,?_,b3⟩
     unfold Sto.pic
     rw [b7]
     unfold Sto.st at b6;unfold Sto.gn at b5
     rw [b6,← b5]
open Go.Proofs
set_option maxRecDepth 10000
def lateI (o : IOp) : Int:=if o.pc.late = true then 1 else 0
set_option maxHeartbeats 16000000 in
theorem aloneG (c : Int) (l : List OpS) (raw : Int) {n : Nat} (hn : 1 ≤ n ∧ n ≤ 12) (s0 : Sto) (S S1 : List Item) (hsz : PSpec Tryz.prog 15 [.c (.int .u8 c)] (V.int n)) (hhd : PSpec Tryz.prog 42 [] (V.bool true))
 (hp : LSpec Tryz.prog 14 [V.int n,opsSV l] [] 0 (.tup [.p 0 10 0 0,.p 5 10 0 0]) (stoB s0 2 ++ rstoAt s0 5 7) 10) (hr : Ready n s0 S) (P : Nat → IOp) (Q : Nat → Sto) (m : Nat) (hm : 1 ≤ m ∧ m ≤ 9) (hP0 : P 0 = .new 3 (timeI raw)) (hQ0 : Q 0 = s0)
 (hst : ∀ k,k < m → IStep (P k) (Q k) (decide (k + 1 = m)) (P (k + 1)) (Q (k + 1))) (hbl : ∀ k,k < m → (P (k + 1)).blk = false) (hef : ∀ k,k < m → (P (k + 1)).eff = (!(P k).pc.late && (P (k + 1)).pc.late)) (hlt : ∀ k,k < m → (P k).pc.late = true → (P (k + 1)).pc.late = true) (hrt : (P m).pc = .ret)
 (hA : AloneR n s0 S (timeI raw) (P m).e (P m).h (Q m) S1) : PSpec Tryz.prog 9 [.c (.int .u8 c),opsSV l,V.int raw] (V.bool true):=by
 refine pspec tab_ok mix Tryz.func9 (by kernel_rfl) rfl rfl ?_
 (refine go ?_; try exact True.intro)
 refine callB hhd (go ?_)
 refine callB hsz (go ?_)
 refine callL hp [] [] rfl ?_
 have hpl0:=hr.ok.toSOk.pics_len
 (refine go ?_; try exact True.intro)
 refine callL (itemsH hr.ok) [some 512,some 513,some 514,some 515,some 516] [] rfl (go ?_)
 refine callL (arenaH hr.ok) [some 512,some 513,some 514,some 515,some 516] [] rfl (go ?_)
 refine callB (timeIC raw) ?_
 generalize timeI raw = t at *
 (refine go ?_; try exact True.intro)
 refine callL (iNewC s0 3 ⟨1,t,0,0,0⟩) [some 512,some 513,some 514,some 515,some 516] [] rfl (go ?_)
 rw [List.length_map,hpl0,show (!decide ((n : Int) = n)) = false by simp]
 (refine go ?_; try exact True.intro)
 refine loopO tab_ok mix [20,21,22,23,24,25,26,27,28,29,30,31] [7,8,9,11,12,13] [1344] (fun k : Nat=>[(14,.p 20 16 0 0),(15,V.int k),(16,V.int (lateI (P k))),(17,V.bool (decide (k = m)))]) (fun k=>bl12 (P k) 512 (fun x=>20 + x) ++ sto5 (Q k) 512 513 1 515 516) (fun k=>k ≤ m) (fun k=>m - k) [(1,514),(20,1856)] 0 rfl (by omega) ?_ ?_
 · rw [hP0,hQ0]
   (refine go ?_; try exact True.intro)
   refine boBlk (o:=.new 3 t) (st:=512) (ν:=fun x=>20 + x) (fun x=>match x with | 0=>1856 | x=>20 + x) ?_ (by rfl) (by rfl) (by decide) (by decide) (by decide)
   (refine go ?_; try exact True.intro)
   iterate 11 (refine BO.no (by rfl) (by trivial) ?_;(refine go ?_; try exact True.intro))
 intro k hk
 (refine go ?_; try exact True.intro)
 rw [decide_eq_true (show (k : Int) < 10 by omega)]
 (refine go ?_; try exact True.intro)
 by_cases hz : k < m
 case neg=>
  obtain rfl : k = m:=by omega
  rw [show decide (k = k) = true by simp]
  (refine go ?_; try exact True.intro)
  have hre : (P k).re = (P k).e ∧ (P k).rh = (P k).h:=re_done (by unfold IOp.done;rw [hrt])
  have hla : lateI (P k) = 1:=by unfold lateI;rw [hrt];rfl
  have hres:=iResultC (P k) (Q k)
  rw [hre.1,hre.2] at hres
  refine callL (itemsH hA.sb) [some 512,some 513,some 1,some 515,some 516] [] rfl (go ?_)
  refine callO hres [some 20,some 21,some 22,some 23,some 24,some 25,some 26,some 27,some 28,some 29,some 30,some 31,some 512,some 513,some 1,some 515,some 516] [] _ _ _ (iB0_at (ν:=fun x=>20 + x) (P k) (Q k) (by decide) rfl rfl rfl rfl rfl) (iB0_at (ν:=fun x=>20 + x) (P k) (Q k) (by decide) rfl rfl rfl rfl rfl) rfl rfl ?_
  generalize (P k).e = e at *
  generalize (P k).h = h at *
  rw [hla]
  (refine go ?_; try exact True.intro)
  have hpl1:=hA.sb.toSOk.pics_len
  have hbad:=hA.bad
  have hil0:=hr.ok.toSOk.items_len
  have hli0:=hr.ok.toSOk.live_idle
  have hnx0:=hr.ok.fits.next
  have hidl:=hr.ok.idle_len
  have hsame : (Q k).pics = s0.pics → (Q k).idle = s0.idle → (Q k).next = s0.next → PSpec Tryz.prog 26 [arenaV (Q k).pics (Q k).idle (Q k).next,arenaV s0.pics s0.idle s0.next] (V.bool true):=fun z1 z2 z3=>by
   rw [z1,z2,z3]
   exact sameArC _ _ _ (by omega) (by omega)
  unfold BadT at hbad
  by_cases t0 : t < 0
  · obtain rfl : e = 1:=hbad.2 (.inl t0)
    rw [decide_eq_true t0]
    (refine go ?_; try exact True.intro)
    rcases hA.or with ⟨q1,q2,q3,q4,q5,q6⟩ | ⟨q1,_⟩
    case inr=>cases q1
    rw [List.length_map,List.length_map,decide_eq_true (show (S1.length : Int) = S.length by omega)]
    (refine go ?_; try exact True.intro)
    refine dcallR (arenaH hA.sb) [some 512,some 513,some 1,some 515,some 516] rfl rfl (go ?_)
    refine dcallC (hsame q2 q3 q4) (go ?_)
    exact .same rfl
  rw [decide_eq_false t0]
  (refine go ?_; try exact True.intro)
  by_cases t1 : 1152921504606846976 < t
  · obtain rfl : e = 1:=hbad.2 (.inr t1)
    rw [decide_eq_true t1]
    (refine go ?_; try exact True.intro)
    rcases hA.or with ⟨q1,q2,q3,q4,q5,q6⟩ | ⟨q1,_⟩
    case inr=>cases q1
    rw [List.length_map,List.length_map,decide_eq_true (show (S1.length : Int) = S.length by omega)]
    (refine go ?_; try exact True.intro)
    refine dcallR (arenaH hA.sb) [some 512,some 513,some 1,some 515,some 516] rfl rfl (go ?_)
    refine dcallC (hsame q2 q3 q4) (go ?_)
    exact .same rfl
  rw [decide_eq_false t1]
  have he1 : ¬ e = 1:=fun z=>by rcases hbad.1 z with z | z <;> contradiction
  rw [show (!(decide (e = 1) == false)) = false by simp [he1]]
  (refine go ?_; try exact True.intro)
  rcases hA.or with ⟨q1,q2,q3,q4,q5,q6⟩ | ⟨rfl,i,q1,q2,q3,q4,q5,q6⟩
  · rw [show (!decide (e = 0)) = true by simp [q1]]
    (refine go ?_; try exact True.intro)
    obtain ⟨rfl,hlv⟩:=q6.resolve_left he1
    rw [List.length_map,List.length_map,decide_eq_true (show (S1.length : Int) = S.length by omega)]
    (refine go ?_; try exact True.intro)
    refine dcallR (arenaH hA.sb) [some 512,some 513,some 1,some 515,some 516] rfl rfl (go ?_)
    refine dcallC (hsame q2 q3 q4) (go ?_)
    refine dcallC (liveC s0.pics s0.idle s0.next (by omega)) (go ?_)
    rw [hlv,decide_eq_true (show (n : Int) = n from rfl)]
    (refine go ?_; try exact True.intro)
    exact .same rfl
  · (refine go ?_; try exact True.intro)
    refine callB (rSlotC h) ?_
    rw [q2]
    (refine go ?_; try exact True.intro)
    rw [decide_eq_false (show ¬ (i : Int) < 0 by omega)]
    (refine go ?_; try exact True.intro)
    rw [decide_eq_false (show ¬ (n : Int) ≤ i by omega)]
    (refine go ?_; try exact True.intro)
    refine callB (liveC s0.pics s0.idle s0.next (by omega)) (go ?_)
    rw [decide_eq_false (show ¬ (liveN s0.pics : Int) = n by omega)]
    (refine go ?_; try exact True.intro)
    rw [List.length_map,List.length_map]
    refine wrB (show -9223372036854775808 ≤ (S.length : Int) + 1 ∧ (S.length : Int) + 1 ≤ 9223372036854775807 by omega) (go ?_)
    rw [decide_eq_true (show (S1.length : Int) = S.length + 1 by omega)]
    (refine go ?_; try exact True.intro)
    refine callL (arenaH hA.sb) [some 512,some 513,some 1,some 515,some 516] [] rfl (go ?_)
    have hpic : (Q k).pics[i]? = some ((Q k).pic i):=by
     obtain ⟨z,hz⟩ : ∃ z,(Q k).pics[i]? = some z:=⟨_,List.getElem?_eq_getElem (by omega)⟩
     rw [hz,(hA.sb.toSOk.pics_get hz).2]
    rw [q5] at hpic
    refine idxB hpic (go ?_)
    dsimp only
    rw [decide_eq_true (show t = t from rfl)]
    (refine go ?_; try exact True.intro)
    rw [decide_eq_true (show s0.next = s0.next from rfl)]
    (refine go ?_; try exact True.intro)
    refine dcallC (rGenerationC h) (go ?_)
    rw [decide_eq_true (show genH h = genH h from rfl)]
    (refine go ?_; try exact True.intro)
    have hp0 : s0.pics[i]? = some (s0.pic i):=by
     obtain ⟨z,hz⟩ : ∃ z,s0.pics[i]? = some z:=⟨_,List.getElem?_eq_getElem (by omega)⟩
     rw [hz,(hr.ok.toSOk.pics_get hz).2]
    refine idxB hp0 (go ?_)
    rw [decide_eq_true (show (s0.pic i).state = 0 from q6)]
    (refine go ?_; try exact True.intro)
    exact .same rfl
 rw [decide_eq_false (show ¬ k = m by omega)]
 (refine go ?_; try exact True.intro)
 have a1:=hst k hz
 have a2:=hbl k hz
 have a3:=hef k hz
 have a4:=hlt k hz
 refine callO a1 [some 20,some 21,some 22,some 23,some 24,some 25,some 26,some 27,some 28,some 29,some 30,some 31,some 512,some 513,some 1,some 515,some 516] [] _ _ _ (iB0_at (ν:=fun x=>20 + x) (P k) (Q k) (by decide) rfl rfl rfl rfl rfl) (iB1_at (ν:=fun x=>match x with | 0=>20 | x=>3200 + x) (P (k + 1)) (Q (k + 1)) rfl (by decide) rfl rfl rfl rfl rfl) rfl rfl (go ?_)
 refine callO (iBlockedC (P (k + 1)) (Q (k + 1))) [some 20,some 3201,some 3202,some 3203,some 3204,some 3205,some 3206,some 3207,some 3208,some 3209,some 3210,some 3211,some 512,some 513,some 3200,some 515,some 516] [] _ _ _ (iB0_at (ν:=fun x=>match x with | 0=>20 | x=>3200 + x) (P (k + 1)) (Q (k + 1)) (by decide) rfl rfl rfl rfl rfl) (iB0_at (ν:=fun x=>match x with | 0=>20 | x=>3200 + x) (P (k + 1)) (Q (k + 1)) (by decide) rfl rfl rfl rfl rfl) rfl rfl ?_
 rw [a2]
 (refine go ?_; try exact True.intro)
 refine callO (iEffectC (P (k + 1)) (Q (k + 1))) [some 20,some 3201,some 3202,some 3203,some 3204,some 3205,some 3206,some 3207,some 3208,some 3209,some 3210,some 3211,some 512,some 513,some 3200,some 515,some 516] [] _ _ _ (iB0_at (ν:=fun x=>match x with | 0=>20 | x=>3200 + x) (P (k + 1)) (Q (k + 1)) (by decide) rfl rfl rfl rfl rfl) (iB0_at (ν:=fun x=>match x with | 0=>20 | x=>3200 + x) (P (k + 1)) (Q (k + 1)) (by decide) rfl rfl rfl rfl rfl) rfl rfl ?_
 rw [a3]
 cases hl : (P k).pc.late with
 | true=>
  rw [a4 hl]
  (refine go ?_; try exact True.intro)
  refine .mk [(1,3200),(21,3201),(22,3202),(23,3203),(24,3204),(25,3205),(26,3206),(27,3207),(28,3208),(29,3209),(30,3210),(31,3211)] (k + 1) (by omega) (by omega) (go ?_)
  refine cb (show lateI (P k) = lateI (P (k + 1)) by unfold lateI;rw [hl,a4 hl]) (go ?_)
  iterate 12 (refine boBlk (o:=P (k + 1)) (st:=512) (ν:=fun x=>20 + x) (fun x=>match x with | 0=>20 | x=>3200 + x) ?_ (by rfl) (by rfl) (by decide) (by decide) (by decide);(refine go ?_; try exact True.intro))
 | false=>
  cases hl1 : (P (k + 1)).pc.late with
  | true=>
   have hz0 : lateI (P k) = 0:=by unfold lateI;rw [hl];rfl
   (refine go ?_; try exact True.intro)
   refine .mk [(1,3200),(21,3201),(22,3202),(23,3203),(24,3204),(25,3205),(26,3206),(27,3207),(28,3208),(29,3209),(30,3210),(31,3211)] (k + 1) (by omega) (by omega) (go ?_)
   refine cb (show lateI (P k) + 1 = lateI (P (k + 1)) by unfold lateI;rw [hl,hl1];rfl) (go ?_)
   iterate 12 (refine boBlk (o:=P (k + 1)) (st:=512) (ν:=fun x=>20 + x) (fun x=>match x with | 0=>20 | x=>3200 + x) ?_ (by rfl) (by rfl) (by decide) (by decide) (by decide);(refine go ?_; try exact True.intro))
  | false=>
   (refine go ?_; try exact True.intro)
   refine .mk [(1,3200),(21,3201),(22,3202),(23,3203),(24,3204),(25,3205),(26,3206),(27,3207),(28,3208),(29,3209),(30,3210),(31,3211)] (k + 1) (by omega) (by omega) (go ?_)
   refine cb (show lateI (P k) = lateI (P (k + 1)) by unfold lateI;rw [hl,hl1]) (go ?_)
   iterate 12 (refine boBlk (o:=P (k + 1)) (st:=512) (ν:=fun x=>20 + x) (fun x=>match x with | 0=>20 | x=>3200 + x) ?_ (by rfl) (by rfl) (by decide) (by decide) (by decide);(refine go ?_; try exact True.intro))
theorem done_iff {o : IOp} : o.done = true ↔ o.pc = .ret:=by
 unfold IOp.done
 cases o.pc <;> simp
theorem insertopAlone (c : Int) (hc : 0 ≤ c ∧ c ≤ 255) (l : List OpS) (hl : ∀ o ∈ l,o.Ok) (raw : Int) : PSpec Tryz.prog 9 [.c (.int .u8 c),opsSV l,V.int raw] (V.bool true):=by
 obtain ⟨_,hn⟩:=capN_ok hc.1
 have hr:=prep_ready hn hl
 have hsz:=sizeC c hc
 have hp:=preparedC hn l hl
 generalize prepS (capN c) l = s at *
 generalize (runF (capN c) l (min l.length 60)).2 = S at *
 generalize capN c = n at *
 obtain ⟨m,m1,m2,m3,m4⟩:=runA_end hr (timeI raw)
 have hai : ∀ k,k ≤ m → AI n s (timeI raw) k (runA (timeI raw) s k).1 (runA (timeI raw) s k).2:=fun k hk=>runA_ok hr (timeI raw) k fun j hj=>m3 j (by omega)
 have hst : ∀ k,k < m → _:=fun k hk=>(hai k (by omega)).step (m3 k hk)
 obtain ⟨S1,hA⟩:=alone_end hr (hai m (Nat.le_refl _)) m2 m4
 refine aloneG c l raw hn s S S1 hsz head12C hp hr (fun k=>(runA (timeI raw) s k).1) (fun k=>(runA (timeI raw) s k).2) m ⟨m1,m2⟩ rfl rfl (fun k hk=>?_) (fun k hk=>(hst k hk).2.1) (fun k hk=>(hst k hk).2.2.1) (fun k hk hlate=>?_) m4 hA
 · obtain ⟨_,_,_,S2,A,b1,b2,b3⟩:=hst k hk
   have e : decide (k + 1 = m) = (runA (timeI raw) s (k + 1)).1.done:=by
    by_cases hz : k + 1 = m
    · rw [decide_eq_true hz,hz];exact (done_iff.2 m4).symm
    · rw [decide_eq_false hz]
      cases hd : (runA (timeI raw) s (k + 1)).1.done with
      | false=>rfl
      | true=>exact absurd (done_iff.1 hd) (m3 (k + 1) (by omega))
   rw [e]
   exact iStepC b1 (by omega) b2 b3
 · obtain ⟨_,_,_,S2,A,b1,b2,b3⟩:=hst k hk
   exact ((step_eff (s:=(runA (timeI raw) s k).2) b3).keep hlate).2.2
theorem specInsertopAlone (rows : List (List D)) (h : AllR (ShapeD tab 5) [5,22,3] rows) : PSpec Tryz.prog 9 (List.zipWith (argV tab) [5,22,3] rows) (V.bool true):=by
 obtain ⟨_,_,rfl,h1,h⟩:=h.cons
 obtain ⟨_,_,rfl,h2,h⟩:=h.cons
 obtain ⟨_,_,rfl,h3,h⟩:=h.cons
 cases h.nil
 obtain ⟨c,rfl,hc⟩:=u8OfG h1
 obtain ⟨l,hl,rfl⟩:=opsSOf h2
 obtain ⟨raw,rfl,_⟩:=intOfG h3
 exact insertopAlone c hc l hl raw
end Go.Proofs.YtcffiehcdadimaaGreat.Abs
