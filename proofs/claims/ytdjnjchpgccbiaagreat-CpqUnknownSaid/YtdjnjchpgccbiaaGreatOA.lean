/- Calls of all kinds beside each other: states, steps, and what stays true of the locks. -/
import Derived.Test.YtdjnjchpgccbiaaGreatNA
import Derived.Test.YtdjnjchpgccbiaaGreatJB
namespace Go.Proofs.YtdjnjchpgccbiaaGreat.Abs
set_option linter.unusedSimpArgs false
set_option linter.unusedVariables false
inductive Kop where
 | ins (o : IOp)
 | can (o : COp)
 | bat (o : BOp)
 | unk (th : Int) (z : Bool)
def Kop.th : Kop → Int
 | .ins o=>o.th
 | .can o=>o.th
 | .bat o=>o.th
 | .unk th _=>th
def Kop.step (o : Kop) (s : Sto) : Kop × Sto:=
 match o with
 | .ins o=>(.ins (o.step s).1,(o.step s).2)
 | .can o=>(.can (Zs o s).1,(Zs o s).2)
 | .bat o=>(.bat (o.step s).1,(o.step s).2)
 | .unk th _=>(.unk th true,s)
def Kop.done : Kop → Bool
 | .ins o=>o.done
 | .can o=>decide (o.ph = 2)
 | .bat o=>o.done
 | .unk _ z=>z
def Kop.eff : Kop → Bool
 | .ins o=>o.eff
 | .can o=>decide (o.ph = 2)
 | .bat o=>o.eff
 | .unk _ z=>z
def Kop.blk : Kop → Bool
 | .ins o=>o.blk
 | .can o=>o.blk
 | .bat o=>o.blk
 | .unk _ _=>false
def Kop.hnd (o : Kop) (i : Nat) : Prop:=
 match o with
 | .ins o=>o.hnd i
 | .bat o=>o.hnd i
 | _=>False
def Kop.Hd (o : Kop) (i : Nat) : Prop:=
 match o with
 | .ins o=>o.Hd i
 | .bat o=>i < o.held
 | _=>False
def Kop.left (o : Kop) : Option Kop:=if o.done = true then none else some o
def Kop.new (th : Int) (c : Cl) : Kop:=
 if c.k = 1 then .ins (.new th c.t) else if c.k = 2 then .can ⟨th,c.h,0,0,false,false⟩ else if c.k = 3 then .bat (.new th c) else .unk th false
structure KCan (K : Nat) (o : COp) : Prop where
 ok : COk o (4 * K + 3)
 th0 : 0 ≤ o.th
 seen : o.ph = 1 → o.seen % 4 = 1 ∧ o.seen / 4 = Zdi o.h
 ph : o.ph = 0 ∨ o.ph = 1
 dn : o.done = false
structure KBat (n : Nat) (s : Sto) (S : List Item) (A : Nat → Prop) (o : BOp) : Prop where
 ok : BOk n s S A o
 all4 : o.nf < o.rem.length → o.held = 4
 bd : o.bad → o.held = 0 ∧ o.scn = false ∧ o.rem = [] ∧ o.ev = []
 evl : o.ev.length ≤ o.rem.length
 wb : 0 ≤ o.w ∧ o.w ≤ 80003
def KopOk (n K : Nat) (s : Sto) (S : List Item) (A : Nat → Prop) : Kop → Prop
 | .ins o=>IOk n A o
 | .can o=>KCan K o
 | .bat o=>KBat n s S A o
 | .unk th z=>0 ≤ th ∧ z = false
def LkT (H H' : Prop) (th : Int) (x x' : Bool × Int) : Prop:=(H' ∧ x' = (true,th) ∧ (¬ H → x.1 = false)) ∨ (¬ H' ∧ ¬ H ∧ x' = x) ∨ (¬ H' ∧ H ∧ x'.1 = false)
theorem LkT.same {H H' : Prop} {th : Int} {x x' : Bool × Int} (e : x' = x) (hh : H → x = (true,th)) (hH : H' ↔ H) : LkT H H' th x x':=by
 subst e
 by_cases c : H
 · exact .inl ⟨hH.2 c,hh c,fun d=>absurd c d⟩
 · exact .inr (.inl ⟨fun d=>c (hH.1 d),c,rfl⟩)
theorem LkT.lock {H H' : Prop} {th : Int} {x x' : Bool × Int} {c : Prop} [Decidable c] (e : x' = if c then (true,th) else x) (hx : c → x.1 = false) (hh : H → x = (true,th)) (hH : H' ↔ H ∨ c) : LkT H H' th x x':=by
 by_cases d : c
 · rw [if_pos d] at e
   exact .inl ⟨hH.2 (.inr d),e,fun _=>hx d⟩
 · rw [if_neg d] at e
   exact .same e hh ⟨fun y=>(hH.1 y).resolve_right d,fun y=>hH.2 (.inl y)⟩
theorem LkT.free {H H' : Prop} {th : Int} {x x' : Bool × Int} {c : Prop} [Decidable c] (e : x' = if c then (false,0) else x) (hc : c → H) (hh : H → x = (true,th)) (hH : H' ↔ H ∧ ¬ c) : LkT H H' th x x':=by
 by_cases d : c
 · rw [if_pos d] at e
   exact .inr (.inr ⟨fun y=>(hH.1 y).2 d,hc d,by rw [e]⟩)
 · rw [if_neg d] at e
   exact .same e hh ⟨fun y=>(hH.1 y).1,fun y=>hH.2 ⟨y,d⟩⟩
theorem Y9 {m m' : Mem} (h : m'.mtx = m.mtx) (i : Nat) : m'.held i = m.held i:=by unfold Mem.held;rw [h]
theorem IOp.locks {n : Nat} {s : Sto} {A : Nat → Prop} {o : IOp} (ho : IOk n A o) (hm : s.m.mtx.length = 4) (hh : ∀ i,i < 4 → o.Hd i → s.m.held i = (true,o.th)) {i : Nat} (hi : i < 4) :
 LkT (o.Hd i) ((o.step s).1.pc ≠ .ret ∧ (o.step s).1.Hd i) o.th (s.m.held i) ((o.step s).2.m.held i):=by
 obtain ⟨shp,th0,early,tm,full,won,hand⟩:=ho
 obtain ⟨th,x,pc,hd,hx,e,ok,ef,bl⟩:=o
 dsimp only at shp hh early
 have h0:=hh i hi
 have lock : ∀ (j : Nat) (p q : PC),pc = p → j < 4 → q ≠ .ret → p ≠ .ret → ((⟨th,x,q,if j = 3 then hd else Zbw hd j,hx,e,ok,false,false⟩ : IOp).Hd i ↔ (⟨th,x,p,hd,hx,e,ok,ef,bl⟩ : IOp).Hd i ∨ i = j) →
  LkT (IOp.Hd ⟨th,x,pc,hd,hx,e,ok,ef,bl⟩ i) ((IOp.lock ⟨th,x,pc,hd,hx,e,ok,ef,bl⟩ s j q).1.pc ≠ .ret ∧ (IOp.lock ⟨th,x,pc,hd,hx,e,ok,ef,bl⟩ s j q).1.Hd i) th (s.m.held i) ((IOp.lock ⟨th,x,pc,hd,hx,e,ok,ef,bl⟩ s j q).2.m.held i):=by
  rintro j p q rfl hj hq hp hH
  unfold IOp.lock
  dsimp only
  by_cases hl : (s.m.lock th j).2 = true
  · rw [if_pos hl]
    refine .lock (c:=i = j) (Mem.held_lock hl (by omega) i).1 (fun c=>by subst c;exact (Mem.held_lock hl (by omega) i).2) h0 ⟨fun y=>hH.1 y.2,fun y=>⟨hq,hH.2 y⟩⟩
  · rw [if_neg hl]
    have hl : (s.m.lock th j).2 = false:=by simpa using hl
    exact .same (Mem.held_nolock hl i).1 h0 ⟨fun y=>y.2,fun y=>⟨hp,y⟩⟩
 have unl : ∀ (s1 : Sto) (j : Nat) (H' : Prop),s1.m.mtx = s.m.mtx → j < 4 → IOp.Hd ⟨th,x,pc,hd,hx,e,ok,ef,bl⟩ j → (H' ↔ IOp.Hd ⟨th,x,pc,hd,hx,e,ok,ef,bl⟩ i ∧ ¬ i = j) →
  LkT (IOp.Hd ⟨th,x,pc,hd,hx,e,ok,ef,bl⟩ i) H' th (s.m.held i) ((s1.m.unlock th j).1.held i):=by
  rintro s1 j H' hs hj hd hH
  have h1 : s1.m.held j = (true,th):=by rw [Y9 hs];exact hh j hj hd
  have h2:=(Mem.held_unlock h1 (by rw [hs];omega) i).1
  rw [Y9 hs] at h2
  exact .free h2 (fun c=>by subst c;exact hd) h0 hH
 have same : ∀ (s1 : Sto) (H' : Prop),s1.m.mtx = s.m.mtx → (H' ↔ IOp.Hd ⟨th,x,pc,hd,hx,e,ok,ef,bl⟩ i) → LkT (IOp.Hd ⟨th,x,pc,hd,hx,e,ok,ef,bl⟩ i) H' th (s.m.held i) (s1.m.held i):=
  fun s1 H' hs hH=>.same (Y9 hs i) h0 hH
 have tch : ∀ l,(s.touch th l).m.mtx = s.m.mtx:=fun l=>(Zg th l s.m).2.1
 have alloc : pc = .alloc → LkT (IOp.Hd ⟨th,x,pc,hd,hx,e,ok,ef,bl⟩ i) ((IOp.step ⟨th,x,pc,hd,hx,e,ok,ef,bl⟩ s).1.pc ≠ .ret ∧ (IOp.step ⟨th,x,pc,hd,hx,e,ok,ef,bl⟩ s).1.Hd i) th (s.m.held i) ((IOp.step ⟨th,x,pc,hd,hx,e,ok,ef,bl⟩ s).2.m.held i):=by
  rintro rfl
  have hmt : (s.allocF th x).1.m.mtx = s.m.mtx:=by
   unfold Sto.allocF
   split
   · exact tch [3]
   · exact tch [3]
  unfold IOp.step
  dsimp only
  split
  · refine same _ _ hmt ?_
    simp [IOp.Hd]
  · refine same _ _ hmt ?_
    simp [IOp.Hd]
 have put : (IOp.putS ⟨th,x,pc,hd,hx,e,ok,ef,bl⟩ s).m.mtx = s.m.mtx:=by
  unfold IOp.putS
  dsimp only
  split
  · exact (Zg th _ s.m).2.1
  · rfl
 cases shp with
 | start=>
  unfold IOp.step
  dsimp only
  split
  · exact same s _ rfl (by simp [IOp.Hd,hdL])
  · refine same _ _ rfl ?_
    dsimp only
    split <;> simp [IOp.Hd,hdL]
 | top=>exact lock 0 .top .conf rfl (by omega) (by simp) (by simp) (by simp [IOp.Hd,hdL,Zbw])
 | r0=>exact lock 1 .rungs .choose rfl (by omega) (by simp) (by simp) (by simp [IOp.Hd,hdL,Zbw];omega)
 | r1=>exact lock 1 .rungs .choose rfl (by omega) (by simp) (by simp) (by simp [IOp.Hd,hdL,Zbw];omega)
 | bottom=>exact lock 2 .bottom .arena rfl (by omega) (by simp) (by simp) (by simp [IOp.Hd,hdL,Zbw];omega)
 | a0=>exact lock 3 .arena .alloc rfl (by omega) (by simp) (by simp) (by simp [IOp.Hd,hdL])
 | a1=>exact lock 3 .arena .alloc rfl (by omega) (by simp) (by simp) (by simp [IOp.Hd,hdL])
 | a2=>exact lock 3 .arena .alloc rfl (by omega) (by simp) (by simp) (by simp [IOp.Hd,hdL])
 | conf=>
  unfold IOp.step
  dsimp only
  refine same _ _ rfl ?_
  split <;> simp [IOp.Hd,hdL]
 | undo=>exact unl s 0 _ rfl (by omega) (by simp [IOp.Hd,hdL]) (by simp [IOp.step,IOp.unlock,IOp.Hd,hdL,ZkA];try omega)
 | choose=>
  unfold IOp.step
  dsimp only
  refine same _ _ (tch [1]) ?_
  split <;> simp [IOp.Hd,hdL]
 | l0=>exact alloc rfl
 | l1=>exact alloc rfl
 | l2=>exact alloc rfl
 | v0=>exact unl s 3 _ rfl (by omega) (by simp [IOp.Hd,hdL]) (by simp [IOp.step,IOp.Hd,hdL];try omega)
 | v1=>exact unl s 3 _ rfl (by omega) (by simp [IOp.Hd,hdL]) (by simp [IOp.step,IOp.Hd,hdL];try omega)
 | v2=>exact unl s 3 _ rfl (by omega) (by simp [IOp.Hd,hdL]) (by simp [IOp.step,IOp.Hd,hdL];try omega)
 | p0=>exact unl _ 0 _ put (by omega) (by simp [IOp.Hd,hdL]) (by simp [IOp.step,IOp.unlock,IOp.Hd,hdL,ZkA];try omega)
 | p1=>exact unl _ 1 _ put (by omega) (by simp [IOp.Hd,hdL]) (by simp [IOp.step,IOp.unlock,IOp.Hd,hdL,ZkA];try omega)
 | p2=>exact unl _ 2 _ put (by omega) (by simp [IOp.Hd,hdL]) (by simp [IOp.step,IOp.unlock,IOp.Hd,hdL,ZkA];try omega)
 | rel=>exact unl s 1 _ rfl (by omega) (by simp [IOp.Hd,hdL]) (by simp [IOp.step,IOp.unlock,IOp.Hd,hdL,ZkA];try omega)
theorem Zji (s : Sto) (th : Int) (q : Lad) : (s.take th q).m.mtx = s.m.mtx:=(Zbg (s:=s) (th:=th) (q:=q)).1
theorem Zme (m : Mem) (th : Int) (i : Nat) (a b : Int) : (m.cas th i a b).1.mtx = m.mtx:=by
 unfold Mem.cas;split <;> rfl
theorem ZgJ (s : Sto) (th : Int) : (s.peekF th).m.mtx = s.m.mtx:=Zji s th _
theorem Zhs (s : Sto) (th : Int) : (s.lookF th).m.mtx = s.m.mtx:=by
 have h : ((s.peekF th).m.load th ((Yf s.q).2.1.slot.toNat + 1)).mtx = (s.peekF th).m.mtx:=rfl
 exact h.trans (ZgJ s th)
theorem Zgw (s : Sto) (th : Int) : (s.dropF th).m.mtx = s.m.mtx:=Zji s th _
theorem BOp.locks {n : Nat} {s : Sto} {S : List Item} {A : Nat → Prop} {o : BOp} (ho : KBat n s S A o) (hm : s.m.mtx.length = 4) (hh : ∀ i,i < 4 → i < o.held → s.m.held i = (true,o.th)) {i : Nat} (hi : i < 4) :
 LkT (i < o.held) ((o.step s).1.done = false ∧ i < (o.step s).1.held) o.th (s.m.held i) ((o.step s).2.m.held i):=by
 have h0:=hh i hi
 have hres:=ho.ok.res
 have hdn : ∀ p : BOp,p.rv = o.rv → p.e = o.e → p.done = false:=fun p e1 e2=>by
  unfold BOp.done;rw [e1,e2,hres.1,hres.2];rfl
 unfold BOp.step
 by_cases hb : o.bad
 · rw [if_pos hb]
   obtain ⟨b1,_⟩:=ho.bd hb
   exact .inr (.inl ⟨fun y=>by have:=y.2;dsimp only at this;omega,by omega,rfl⟩)
 rw [if_neg hb]
 by_cases c1 : o.scn = false ∧ o.held < 4
 · rw [if_pos c1]
   unfold BOp.lock
   dsimp only
   by_cases hl : (s.m.lock o.th o.held).2 = true
   · rw [if_pos hl]
     refine .lock (c:=i = o.held) (Mem.held_lock hl (by omega) i).1 (fun c=>by subst c;exact (Mem.held_lock hl (by omega) o.held).2) h0 ⟨fun y=>?_,fun y=>⟨hdn _ rfl rfl,?_⟩⟩
     · have:=y.2;dsimp only at this;omega
     · dsimp only;omega
   · rw [if_neg hl]
     have hl : (s.m.lock o.th o.held).2 = false:=by simpa using hl
     exact .same (Mem.held_nolock hl i).1 h0 ⟨fun y=>y.2,fun y=>⟨hdn _ rfl rfl,y⟩⟩
 rw [if_neg c1]
 by_cases c2 : o.cl = true
 · rw [if_pos c2]
   unfold BOp.take
   split
   · exact .same (Y9 ((Zgw _ _).trans (Zme _ _ _ _ _)) i) h0 ⟨fun y=>y.2,fun y=>⟨hdn _ rfl rfl,y⟩⟩
   · exact .same (Y9 (Zme _ _ _ _ _) i) h0 ⟨fun y=>y.2,fun y=>⟨hdn _ rfl rfl,y⟩⟩
 rw [if_neg c2]
 by_cases c3 : o.scn = false
 · rw [if_pos c3]
   unfold BOp.scan
   split
   · split
     · exact .same (Y9 ((Zgw _ _).trans (Zhs s _)) i) h0 ⟨fun y=>y.2,fun y=>⟨hdn _ rfl rfl,y⟩⟩
     · exact .same (Y9 (Zhs s _) i) h0 ⟨fun y=>y.2,fun y=>⟨hdn _ rfl rfl,y⟩⟩
   · exact .same (Y9 (ZgJ s _) i) h0 ⟨fun y=>y.2,fun y=>⟨hdn _ rfl rfl,y⟩⟩
 rw [if_neg c3]
 by_cases c4 : o.nf < o.rem.length
 · rw [if_pos c4]
   have hm : ∀ k : Nat,((s.touch o.th [3]).free1 o.th k).m.mtx = s.m.mtx:=fun k=>(Zg o.th [3] s.m).2.1
   have hf : (o.free s).2.m.held i = s.m.held i:=by
    unfold BOp.free
    dsimp only
    exact Y9 (hm _) i
   have hd : (o.free s).1.done = false:=hdn _ rfl rfl
   have hl : (o.free s).1.held = o.held:=rfl
   generalize o.free s = r at hf hd hl ⊢
   rw [hl]
   exact .same hf h0 ⟨fun y=>y.2,fun y=>⟨hd,y⟩⟩
 rw [if_neg c4]
 have hscn : o.scn = true:=by simpa using c3
 have hl1:=(ho.ok.late hscn).2
 have hl4:=ho.ok.held
 unfold BOp.unlock
 have h1 : s.m.held (o.held - 1) = (true,o.th):=hh _ (by omega) (by omega)
 refine .free (c:=i = o.held - 1) (Mem.held_unlock h1 (by omega) i).1 (fun c=>by omega) h0 ⟨fun y=>?_,fun y=>⟨?_,?_⟩⟩
 · have:=y.2;dsimp only at this;omega
 · unfold BOp.done
   dsimp only
   rw [hres.2,decide_eq_false (show ¬ o.held = 1 by omega)]
   rfl
 · dsimp only;omega
theorem SOk.uniq {n n' : Nat} {s s' : Sto} {S S' : List Item} {A A' : Nat → Prop} {K K' : Nat} (h : SOk n s S A K) (h' : SOk n' s' S' A' K') (e : s'.q = s.q) : S' = S:=by
 have a:=h.small.2.2
 have b:=h'.small.2.2
 rw [e] at b
 exact b.symm.trans a
theorem IOp.step_q {o : IOp} (s : Sto) (hp : o.pc ≠ .put) : (o.step s).2.q = s.q:=by
 obtain ⟨th,x,pc,hd,hh,e,ok,ef,bl⟩:=o
 have lk : ∀ i q,(IOp.lock ⟨th,x,pc,hd,hh,e,ok,ef,bl⟩ s i q).2.q = s.q:=fun i q=>by unfold IOp.lock;split <;> rfl
 cases pc with
 | put=>exact absurd rfl hp
 | ret=>rfl
 | start=>
  unfold IOp.step
  dsimp only
  split <;> rfl
 | top=>exact lk 0 .conf
 | rungs=>exact lk 1 .choose
 | bottom=>exact lk 2 .arena
 | arena=>exact lk 3 .alloc
 | conf=>rfl
 | undo=>rfl
 | choose=>rfl
 | alloc=>
  unfold IOp.step Sto.allocF
  dsimp only
  split <;> split <;> rfl
 | leave=>rfl
 | rel=>rfl
theorem ZsR {n : Nat} {A : Nat → Prop} {o : IOp} (ho : IOk n A o) (hp : o.pc = .put) : ∃ i,i < 4 ∧ o.Hd i:=by
 have h:=ho.shp
 rw [hp] at h
 generalize hd : o.hd = z at h
 cases h with
 | p0=>exact ⟨0,by omega,.inl (by rw [hd];simp [hdL])⟩
 | p1=>exact ⟨1,by omega,.inl (by rw [hd];simp [hdL])⟩
 | p2=>exact ⟨1,by omega,.inl (by rw [hd];simp [hdL])⟩
theorem BOp.hnd_new {n K : Nat} {s : Sto} {S : List Item} {A : Nat → Prop} (h : SB n s S A K) {o : BOp} (ho : BOk n s S A o) {i : Nat} (h1 : (o.step s).1.hnd i) (h2 : ¬ o.hnd i) : ¬ A i:=by
 have add : ∀ (p : BOp) (x : Item),p.rem = o.rem ++ [x.slot] → p.nf = o.nf → x ∈ S → p.hnd i → ¬ A i:=fun p x e1 e2 hx hp=>by
  obtain ⟨k,hk,hg⟩:=hp
  rw [e1] at hg
  rw [e2] at hk
  rcases Zdn hg with ⟨q1,q2⟩ | ⟨q1,q2⟩
  · exact absurd ⟨k,hk,q1⟩ h2
  · obtain ⟨j,hj,hxj,hl,hA⟩:=h.itm x hx
    have : x.slot = (j : Int):=by rw [hxj];rfl
    have e : j = i:=by omega
    rw [← e];exact hA
 have same : ∀ (p : BOp),p.rem = o.rem → p.nf = o.nf → p.hnd i → ¬ A i:=fun p e1 e2 hp=>absurd ((QZ e1 e2 i).1 hp) h2
 unfold BOp.step at h1
 by_cases hb : o.bad
 · rw [if_pos hb] at h1
   exact same _ rfl rfl h1
 rw [if_neg hb] at h1
 by_cases c1 : o.scn = false ∧ o.held < 4
 · rw [if_pos c1] at h1
   unfold BOp.lock at h1
   dsimp only at h1
   split at h1
   · exact same _ rfl rfl h1
   · exact same _ rfl rfl h1
 rw [if_neg c1] at h1
 by_cases c2 : o.cl = true
 · rw [if_pos c2] at h1
   obtain ⟨T,hT⟩:=ho.clm c2
   unfold BOp.take at h1
   split at h1
   · refine add _ o.it ?_ ?_ (by rw [hT];exact List.mem_cons_self) h1
     · rfl
     · rfl
   · exact same _ rfl rfl h1
 rw [if_neg c2] at h1
 by_cases c3 : o.scn = false
 · rw [if_pos c3] at h1
   obtain ⟨p1,p2⟩:=h.toSOk.peekS
   unfold BOp.scan at h1
   rw [p1,p2] at h1
   split at h1
   · next hc=>
     split at h1
     · refine add _ (Q8 S) ?_ ?_ ?_ h1
       · rfl
       · rfl
       cases S with
       | nil=>simp at hc
       | cons x T=>exact List.mem_cons_self
     · exact same _ rfl rfl h1
   · exact same _ rfl rfl h1
 rw [if_neg c3] at h1
 by_cases c4 : o.nf < o.rem.length
 · rw [if_pos c4] at h1
   exfalso
   obtain ⟨k,hk,hg⟩:=h1
   exact h2 ⟨k,by unfold BOp.free at hk;dsimp only at hk;omega,hg⟩
 · rw [if_neg c4] at h1
   exact same _ rfl rfl h1
theorem BOp.step_q {o : BOp} (s : Sto) (h : o.scn = false) (hh : o.held = 0) : (o.step s).2.q = s.q:=by
 unfold BOp.step
 split
 · rfl
 · rw [if_pos ⟨h,by omega⟩];rfl
theorem SB.wbd {n K : Nat} {s : Sto} {S : List Item} {A : Nat → Prop} (h : SB n s S A K) (j : Nat) : 0 ≤ s.m.word (j + 1) ∧ s.m.word (j + 1) ≤ 80003:=by
 have hkb:=h.kb
 rcases Nat.lt_or_ge j n with c | c
 · have:=h.wd j c
   unfold Sto.gn at this
   omega
 · have : s.m.word (j + 1) = 0:=by
    unfold Mem.word
    rw [List.getElem?_eq_none (by rw [h.nw];omega)];rfl
   omega
theorem KBat.step {n : Nat} {s s1 : Sto} {S S1 : List Item} {A A1 : Nat → Prop} {o : BOp} (ho : KBat n s S A o) (hw0 : s.m.words.length ≠ 0) (hwb : ∀ j,0 ≤ s.m.word (j + 1) ∧ s.m.word (j + 1) ≤ 80003) (hb : ¬ o.bad) (h : BOk n s1 S1 A1 (o.step s).1) : KBat n s1 S1 A1 (o.step s).1:=by
 have h4:=ho.ok.held
 refine ⟨h,?_,fun y=>?_,?_,?_⟩
 · have he:=ho.ok.early
   have ha:=ho.all4
   unfold BOp.step
   rw [if_neg hb]
   by_cases c1 : o.scn = false ∧ o.held < 4
   · rw [if_pos c1]
     obtain ⟨e1,e2⟩:=he c1.1
     obtain ⟨_,e3,_⟩:=e2 c1.2
     unfold BOp.lock
     dsimp only
     split
     · intro y;dsimp only at y;rw [e3] at y;simp at y
     · intro y;dsimp only at y;rw [e3] at y;simp at y
   rw [if_neg c1]
   by_cases c2 : o.cl = true
   · rw [if_pos c2]
     have hsc : o.scn = false:=by
      cases hs : o.scn with
      | false=>rfl
      | true=>have:=(ho.ok.late hs).1;rw [c2] at this;cases this
     have hh4 : o.held = 4:=by have : ¬ o.held < 4:=fun z=>c1 ⟨hsc,z⟩;omega
     unfold BOp.take
     split <;> exact fun _=>hh4
   rw [if_neg c2]
   by_cases c3 : o.scn = false
   · rw [if_pos c3]
     have hh4 : o.held = 4:=by have : ¬ o.held < 4:=fun z=>c1 ⟨c3,z⟩;omega
     unfold BOp.scan
     split
     · split <;> exact fun _=>hh4
     · exact fun _=>hh4
   rw [if_neg c3]
   by_cases c4 : o.nf < o.rem.length
   · rw [if_pos c4]
     unfold BOp.free
     exact fun _=>ha c4
   · rw [if_neg c4]
     unfold BOp.unlock
     exact fun y=>absurd y c4
 · exfalso
   have e : (o.step s).1.c = o.c:=by
    unfold BOp.step
    rw [if_neg hb]
    unfold BOp.lock BOp.take BOp.scan BOp.free BOp.unlock
    repeat' split
    all_goals rfl
   unfold BOp.bad at y hb
   rw [e] at y
   exact hb y
 · have hl:=ho.evl
   have h1 : ∀ (a b : List (Int × Int)) (c d : List Int),a.length ≤ c.length → b.length ≤ d.length → (a ++ b).length ≤ (c ++ d).length:=fun a b c d h1 h2=>by rw [List.length_append,List.length_append];omega
   unfold BOp.step BOp.lock BOp.take BOp.scan BOp.free BOp.unlock
   repeat' split
   all_goals first | exact hl | exact h1 _ _ _ _ hl (Nat.le_refl _) | (dsimp only;rw [List.length_append];omega)
 · have hl:=ho.wb
   have h1 : ∀ j,0 ≤ (s.peekF o.th).m.word (j + 1) ∧ (s.peekF o.th).m.word (j + 1) ≤ 80003:=fun j=>by
    rw [show (s.peekF o.th).m.word (j + 1) = s.m.word (j + 1) from Zag hw0 j];exact hwb j
   unfold BOp.step BOp.lock BOp.take BOp.scan BOp.free BOp.unlock
   repeat' split
   all_goals first | exact hl | exact h1 _
theorem SB.can {n K : Nat} {s : Sto} {S : List Item} {A : Nat → Prop} (h : SB n s S A K) (hK : K + 1 ≤ 20000) (ht : s.m.Thr) {o : COp} (ho : KCan K o) :
 SB n (Zs o s).2 S A (K + 1) ∧ (Zs o s).2.m.Thr ∧ ((Zs o s).1.ph ≠ 2 → KCan (K + 1) (Zs o s).1) ∧ (Zs o s).1.th = o.th:=by
 obtain ⟨a1,a2,a3,a4,a5,a6,a7,a8,a9,a10,a11⟩:=Zbn o s
 have hw:=h.wds
 have hl:=h.log
 have hv:=h.viol
 have hkb:=h.kb
 refine ⟨?_,Yd ht a7,fun h2=>?_,a1⟩
 · have key : SOk n (Zs o s).2 S A K:=by
    unfold Zs
    by_cases hs : o.has s
    · rw [if_pos hs]
      have hks : o.sl < s.slots.length:=by have:=hs.1;have:=hs.2;unfold COp.sl;omega
      have hwl : o.sl + 1 < s.m.words.length:=by rw [hw.lt];omega
      by_cases hp : o.ph = 1
      · rw [if_pos hp]
        dsimp only
        by_cases e : s.m.word (o.sl + 1) = o.seen
        · have hc : s.m.cas o.th (o.sl + 1) o.seen o.new = (s.m.put o.th 3 (o.sl + 1) o.new true,true):=by unfold Mem.cas;rw [if_pos e]
          rw [hc]
          have h1:=ho.seen hp
          refine h.toSOk.mark (by rw [← h.ns];exact hks) (by unfold Sto.st;omega) o.th 3 true (v:=o.new) ?_ ?_
          · unfold COp.new Sto.gn;omega
          · unfold COp.new;omega
        · have hc : s.m.cas o.th (o.sl + 1) o.seen o.new = (s.m.put o.th 3 (o.sl + 1) (s.m.word (o.sl + 1)) false,false):=by unfold Mem.cas;rw [if_neg e]
          rw [hc]
          exact h.toSOk.same (ZV _ _ _ _ _ hwl) h.nm
      · rw [if_neg hp]
        exact h.toSOk.same (ZV _ _ _ _ _ hwl) h.nm
    · rw [if_neg hs]
      exact h.toSOk
   exact ⟨key.mono (by omega) hK,by omega,by rw [a8];push_cast;omega⟩
 · have h3 : o.ph ≠ 2:=by rcases ho.ph with y | y <;> omega
   have c:=ho.ok.step hw h3
   refine ⟨⟨fun y=>?_,c.dn⟩,by rw [a1];exact ho.th0,?_,?_,?_⟩
   · have:=c.seen y;push_cast;omega
   all_goals
    unfold Zs at h2 ⊢
    by_cases hs : o.has s
    · rw [if_pos hs] at h2 ⊢
      by_cases hp : o.ph = 1
      · rw [if_pos hp] at h2 ⊢
        dsimp only at h2 ⊢
        unfold COp.swap at h2 ⊢
        split at h2
        · exact absurd rfl h2
        · next e=>first | (rw [if_neg e];exact fun y=>by cases y) | (rw [if_neg e];exact .inl rfl) | (rw [if_neg e];exact ho.dn)
      · rw [if_neg hp] at h2 ⊢
        dsimp only at h2 ⊢
        unfold COp.load at h2 ⊢
        split at h2
        · exact absurd rfl h2
        · next e=>
          rw [if_neg e]
          have e2 : Zcs (s.m.word (o.sl + 1)) (Zdi o.cl.h) = false:=by simpa using e
          unfold Zcs at e2
          simp only [Bool.or_eq_false_iff,Bool.not_eq_false',decide_eq_true_eq,decide_eq_false_iff_not] at e2
          have e3 : Zdi o.cl.h = Zdi o.h:=rfl
          have hwd:=hw.wd o.sl
          split
          · first | exact fun y=>absurd y hp | exact ho.ph | exact ho.dn
          · first | (refine fun _=>⟨?_,?_⟩ <;> dsimp only <;> omega) | exact .inr rfl | exact ho.dn
    · rw [if_neg hs] at h2
      exact absurd rfl h2
theorem Zl {o x : Kop} (h : o.left = some x) : x = o ∧ o.done = false:=by
 unfold Kop.left at h
 split at h
 · cases h
 · next e=>cases h;exact ⟨rfl,by simpa using e⟩
theorem YA {o : Kop} (h : o.done = false) : o.left = some o:=by unfold Kop.left;rw [if_neg (by rw [h];simp)]
theorem ZlB {o : Kop} (h : o.done = true) : o.left = none:=by unfold Kop.left;rw [if_pos h]
theorem KCan.mono {K L : Nat} {o : COp} (h : KCan K o) (hl : K ≤ L) : KCan L o:=
 ⟨⟨fun y=>by have:=h.ok.seen y;omega,h.ok.dn⟩,h.th0,h.seen,h.ph,h.dn⟩
structure StepK (n K : Nat) (s s' : Sto) (S S' : List Item) (A A' : Nat → Prop) (o o' : Kop) : Prop where
 sb : SB n s' S' A' (K + 1)
 thr : s'.m.Thr
 ok : o'.done = false → KopOk n (K + 1) s' S' A' o'
 hnd : ∀ i,A' i ↔ (A i ∧ ¬ o.hnd i) ∨ o'.hnd i
 new : ∀ i,o'.hnd i → ¬ o.hnd i → ¬ A i
 th : o'.th = o.th
 S : S' = S ∨ ∃ i,i < 4 ∧ o.Hd i
 lk : ∀ i,i < 4 → LkT (o.Hd i) (o'.done = false ∧ o'.Hd i) o.th (s.m.held i) (s'.m.held i)
 fin : o'.done = true → ∀ i,¬ o'.hnd i
theorem Kop.step_ok {n K : Nat} {s : Sto} {S : List Item} {A : Nat → Prop} (h : SB n s S A K) (hK : K + 1 ≤ 20000) (ht : s.m.Thr) {o : Kop} (ho : KopOk n K s S A o) (hh : ∀ i,i < 4 → o.Hd i → s.m.held i = (true,o.th)) :
 ∃ S' A',StepK n K s (o.step s).2 S S' A A' o (o.step s).1:=by
 cases o with
 | ins o=>
  have ho : IOk n A o:=ho
  obtain ⟨S',A',a1,a2,a3,a4,a5,_⟩:=IOp.step_ok h hK ht ho
  have hdn : ∀ p : IOp,p.done = false → p.pc ≠ .ret:=fun p hp e=>by unfold IOp.done at hp;rw [e] at hp;cases hp
  have hdn2 : ∀ p : IOp,p.pc ≠ .ret → p.done = false:=fun p hp=>by
   unfold IOp.done
   split
   · next e=>exact absurd e hp
   · rfl
  refine ⟨S',A',a1,a2,fun y=>a3 (hdn _ y),a4,fun i h1 h2=>_root_.Go.Proofs.YtdjnjchpgccbiaaGreat.Abs.hnd_new h ht ho h1 h2,a5,?_,fun i hi=>?_,fun y i hi=>?_⟩
  · by_cases hp : o.pc = .put
    · exact .inr (ZsR ho hp)
    · exact .inl (h.toSOk.uniq a1.toSOk (IOp.step_q s hp))
  · rcases IOp.locks (s:=s) ho h.nm hh hi with ⟨x,y⟩ | ⟨x,y⟩ | ⟨x,y⟩
    · exact .inl ⟨⟨hdn2 _ x.1,x.2⟩,y⟩
    · exact .inr (.inl ⟨fun z=>x ⟨hdn _ z.1,z.2⟩,y⟩)
    · exact .inr (.inr ⟨fun z=>x ⟨hdn _ z.1,z.2⟩,y⟩)
  · have y : (o.step s).1.done = true:=y
    unfold IOp.done at y
    split at y
    · next e=>rcases hi.2.1 with z | z <;> (rw [e] at z;cases z)
    · cases y
 | can o=>
  have ho : KCan K o:=ho
  obtain ⟨a1,a2,a3,a4⟩:=h.can hK ht ho
  refine ⟨S,A,a1,a2,fun y=>a3 (by have y : decide ((Zs o s).1.ph = 2) = false:=y;simpa using y),fun i=>⟨fun x=>.inl ⟨x,id⟩,fun x=>x.elim (fun y=>y.1) False.elim⟩,fun i y=>False.elim y,a4,.inl rfl,fun i hi=>?_,fun _ i=>id⟩
  exact .inr (.inl ⟨fun y=>y.2,id,Y9 (Zbn o s).2.2.2.2.2.2.1 i⟩)
 | bat o=>
  have ho : KBat n s S A o:=ho
  by_cases hb : o.bad
  · obtain ⟨b1,b2,b3,b4⟩:=ho.bd hb
    have e : o.step s = ({ o with e:=1,eff:=true,blk:=false },s):=by unfold BOp.step;rw [if_pos hb]
    have hno : ∀ i,¬ o.hnd i:=fun i ⟨k,_,hg⟩=>by rw [b3] at hg;simp at hg
    have hd : (BOp.done { o with e:=1,eff:=true,blk:=false }) = true:=by unfold BOp.done;simp
    have hlk : ∀ i,i < 4 → LkT (i < o.held) ((o.step s).1.done = false ∧ i < (o.step s).1.held) o.th (s.m.held i) ((o.step s).2.m.held i):=fun i hi=>BOp.locks ho h.nm hh hi
    refine ⟨S,A,?_,?_,fun y=>?_,fun i=>?_,fun i y=>?_,?_,.inl rfl,hlk,fun _ i=>?_⟩
    · show SB n (o.step s).2 S A (K + 1)
      rw [e];exact h.mono (by omega) hK
    · show (o.step s).2.m.Thr
      rw [e];exact ht
    · have y : (o.step s).1.done = false:=y
      rw [e,hd] at y;cases y
    · show A i ↔ (A i ∧ ¬ o.hnd i) ∨ (o.step s).1.hnd i
      rw [e]
      exact ⟨fun x=>.inl ⟨x,hno i⟩,fun x=>x.elim (fun y=>y.1) fun y=>absurd y (hno i)⟩
    · have y : (o.step s).1.hnd i:=y
      rw [e] at y
      exact absurd y (hno i)
    · show (o.step s).1.th = o.th
      rw [e]
    · show ¬ (o.step s).1.hnd i
      rw [e];exact hno i
  · obtain ⟨S',A',a1,a2,a3,a4,a5⟩:=BOp.step_ok h hK ht ho.ok hb
    refine ⟨S',A',a1,a2,fun y=>ho.step (by rw [h.nw];omega) h.wbd hb (a3 y),a4,fun i h1 h2=>BOp.hnd_new h ho.ok h1 h2,a5,?_,fun i hi=>BOp.locks ho h.nm hh hi,fun y i hi=>?_⟩
    · by_cases hz : o.held = 0
      · have hs : o.scn = false:=by
         cases hs : o.scn with
         | false=>rfl
         | true=>have:=(ho.ok.late hs).2;omega
        exact .inl (h.toSOk.uniq a1.toSOk (BOp.step_q s hs hz))
      · exact .inr ⟨0,by omega,by show 0 < o.held;omega⟩
    · have y : (o.step s).1.done = true:=y
      have hi : (o.step s).1.hnd i:=hi
      have hres:=ho.ok.res
      have hnot : ∀ p : BOp,p.rv = o.rv → p.e = o.e → p.done = true → False:=fun p e1 e2 e3=>by
       unfold BOp.done at e3;rw [e1,e2,hres.1,hres.2] at e3;cases e3
      unfold BOp.step at y hi
      rw [if_neg hb] at y hi
      by_cases c1 : o.scn = false ∧ o.held < 4
      · rw [if_pos c1] at y
        unfold BOp.lock at y
        dsimp only at y
        split at y <;> exact hnot _ rfl rfl y
      rw [if_neg c1] at y hi
      by_cases c2 : o.cl = true
      · rw [if_pos c2] at y
        unfold BOp.take at y
        split at y <;> exact hnot _ rfl rfl y
      rw [if_neg c2] at y hi
      by_cases c3 : o.scn = false
      · rw [if_pos c3] at y
        unfold BOp.scan at y
        split at y
        · split at y <;> exact hnot _ rfl rfl y
        · exact hnot _ rfl rfl y
      rw [if_neg c3] at y hi
      by_cases c4 : o.nf < o.rem.length
      · rw [if_pos c4] at y
        exact hnot _ rfl rfl y
      · rw [if_neg c4] at hi
        obtain ⟨k,hk,hg⟩:=hi
        have:=(List.getElem?_eq_some_iff.1 hg).1
        unfold BOp.unlock at hk this
        dsimp only at hk this
        omega
 | unk th z=>
  obtain ⟨h0,rfl⟩ : 0 ≤ th ∧ z = false:=ho
  exact ⟨S,A,h.mono (by omega) hK,ht,fun y=>(by cases y),fun i=>⟨fun x=>.inl ⟨x,id⟩,fun x=>x.elim (fun y=>y.1) False.elim⟩,fun i y=>False.elim y,rfl,.inl rfl,fun i hi=>.inr (.inl ⟨fun y=>y.2,id,rfl⟩),fun _ i=>id⟩
structure MS (m n K : Nat) (s : Sto) (cs : Nat → Option Kop) (S : List Item) (A : Nat → Prop) : Prop where
 sb : SB n s S A K
 thr : s.m.Thr
 ops : ∀ j o,j < m → cs j = some o → KopOk n K s S A o ∧ o.th = (j : Int)
 hnd : ∀ i,A i → ∃ j o,j < m ∧ cs j = some o ∧ o.hnd i
 ex : ∀ j j' o o' i,j < m → j' < m → cs j = some o → cs j' = some o' → o.hnd i → o'.hnd i → j = j'
 h1 : ∀ i j o,i < 4 → j < m → cs j = some o → o.Hd i → s.m.held i = (true,(j : Int))
 h2 : ∀ i,i < 4 → (s.m.held i).1 = true → ∃ j o,j < m ∧ cs j = some o ∧ o.Hd i
theorem KBat.all {n : Nat} {s : Sto} {S : List Item} {A : Nat → Prop} {o : BOp} (h : KBat n s S A o) (hc : o.cl = true) : o.scn = false ∧ o.held = 4:=by
 have hsc : o.scn = false:=by
  cases hs : o.scn with
  | false=>rfl
  | true=>have:=(h.ok.late hs).1;rw [hc] at this;cases this
 have h1:=(h.ok.early hsc).2
 have h2 : ¬ o.held < 4:=fun z=>by rw [(h1 z).1] at hc;cases hc
 have h3:=h.ok.held
 exact ⟨hsc,by omega⟩
theorem KopOk.mono {n K L : Nat} {s s' : Sto} {S S' : List Item} {A A' : Nat → Prop} {o : Kop} (h : KopOk n K s S A o) (hl : K ≤ L) (hA : ∀ i,o.hnd i → A i → A' i) (hS : S' = S ∨ ∀ b,o = .bat b → b.cl = false) : KopOk n L s' S' A' o:=by
 cases o with
 | ins o=>exact IOk.mono h hA
 | can o=>exact KCan.mono h hl
 | unk th z=>exact h
 | bat o=>
  have h : KBat n s S A o:=h
  refine ⟨⟨h.ok.th0,h.ok.held,h.ok.nf,h.ok.early,h.ok.late,h.ok.res,fun i hi=>⟨(h.ok.inh i hi).1,hA i hi (h.ok.inh i hi).2⟩,h.ok.int,h.ok.nd,fun y=>?_⟩,h.all4,h.bd,h.evl,h.wb⟩
  rcases hS with rfl | hS
  · exact h.ok.clm y
  · rw [hS o rfl] at y;cases y
theorem MS.step {m n K : Nat} {s : Sto} {cs : Nat → Option Kop} {S : List Item} {A : Nat → Prop} (h : MS m n K s cs S A) (hK : K + 1 ≤ 20000) {t : Nat} {o : Kop} (htm : t < m) (ht : cs t = some o) :
 ∃ S' A',StepK n K s (o.step s).2 S S' A A' o (o.step s).1 ∧ MS m n (K + 1) (o.step s).2 (upd cs t (o.step s).1.left) S' A':=by
 obtain ⟨hok,hth⟩:=h.ops t o htm ht
 obtain ⟨S',A',hs⟩:=Kop.step_ok h.sb hK h.thr hok fun i hi hd=>by rw [hth];exact h.h1 i t o hi htm ht hd
 refine ⟨S',A',hs,hs.sb,hs.thr,fun j p hj hp=>?_,fun i hi=>?_,fun j j' p p' i hj hj' hp hp' h1 h2=>?_,fun i j p hi hj hp hd=>?_,fun i hi hd=>?_⟩
 · by_cases e : j = t
   · subst e
     rw [Zb] at hp
     obtain ⟨rfl,hd⟩:=Zl hp
     exact ⟨hs.ok hd,hs.th.trans hth⟩
   · rw [Zi _ _ _ _ e] at hp
     obtain ⟨b1,b2⟩:=h.ops j p hj hp
     refine ⟨b1.mono (by omega) (fun i h1 h2=>(hs.hnd i).2 (.inl ⟨h2,fun h3=>e (h.ex j t p o i hj htm hp ht h1 h3)⟩)) ?_,b2⟩
     rcases hs.S with e1 | ⟨i,hi,hd⟩
     · exact .inl e1
     · refine .inr fun b e1=>?_
       subst e1
       cases hb : b.cl with
       | false=>rfl
       | true=>
        exfalso
        have h4:=(KBat.all b1 hb).2
        have a:=h.h1 i j _ hi hj hp (show i < b.held by omega)
        rw [h.h1 i t o hi htm ht hd] at a
        have:=congrArg Prod.snd a
        dsimp only at this
        omega
 · rcases (hs.hnd i).1 hi with ⟨h1,h2⟩ | h1
   · obtain ⟨j,p,hj,hp,hh⟩:=h.hnd i h1
     have e : j ≠ t:=fun e=>by subst e;rw [ht] at hp;cases hp;exact h2 hh
     exact ⟨j,p,hj,by rw [Zi _ _ _ _ e];exact hp,hh⟩
   · refine ⟨t,(o.step s).1,htm,?_,h1⟩
     rw [Zb]
     refine YA ?_
     cases hd : (o.step s).1.done with
     | false=>rfl
     | true=>exact absurd h1 (hs.fin hd i)
 · have own : ∀ {j p i},j < m → j ≠ t → cs j = some p → p.hnd i → ¬ (o.step s).1.hnd i:=fun {j p i} hj e hp h1 h2=>by
    have hno : ¬ o.hnd i:=fun h4=>e (h.ex j t p o i hj htm hp ht h1 h4)
    refine hs.new i h2 hno ?_
    obtain ⟨b1,_⟩:=h.ops j p hj hp
    cases p with
    | ins p=>
     have b1 : IOk n A p:=b1
     have h1 : p.hnd i:=h1
     obtain ⟨i',c1,c2,c3⟩:=b1.hand h1.1 h1.2.1
     have:=h1.2.2
     have e2 : i' = i:=by omega
     rw [← e2];exact c3
    | bat p=>exact (KBat.ok b1).inh i h1 |>.2
    | can p=>exact h1.elim
    | unk a b=>exact h1.elim
   by_cases e : j = t
   · by_cases e' : j' = t
     · rw [e,e']
     · subst e
       rw [Zb] at hp
       rw [Zi _ _ _ _ e'] at hp'
       rw [(Zl hp).1] at h1
       exact absurd h1 (own hj' e' hp' h2)
   · rw [Zi _ _ _ _ e] at hp
     by_cases e' : j' = t
     · subst e'
       rw [Zb] at hp'
       rw [(Zl hp').1] at h2
       exact absurd h2 (own hj e hp h1)
     · rw [Zi _ _ _ _ e'] at hp'
       exact h.ex j j' p p' i hj hj' hp hp' h1 h2
 · have hl:=hs.lk i hi
   rw [hth] at hl
   by_cases e : j = t
   · subst e
     rw [Zb] at hp
     obtain ⟨rfl,hdn⟩:=Zl hp
     rcases hl with ⟨_,x,_⟩ | ⟨x,_⟩ | ⟨x,_⟩
     · exact x
     · exact absurd ⟨hdn,hd⟩ x
     · exact absurd ⟨hdn,hd⟩ x
   · rw [Zi _ _ _ _ e] at hp
     have h0:=h.h1 i j p hi hj hp hd
     rcases hl with ⟨_,x,y⟩ | ⟨_,_,x⟩ | ⟨_,y,_⟩
     · exfalso
       by_cases c : o.Hd i
       · have:=h.h1 i t o hi htm ht c
         rw [h0] at this
         have:=congrArg Prod.snd this
         dsimp only at this
         omega
       · have:=y c
         rw [h0] at this;cases this
     · rw [x];exact h0
     · exfalso
       have:=h.h1 i t o hi htm ht y
       rw [h0] at this
       have:=congrArg Prod.snd this
       dsimp only at this
       omega
 · rcases hs.lk i hi with ⟨x,_,_⟩ | ⟨_,y,x⟩ | ⟨_,_,x⟩
   · exact ⟨t,(o.step s).1,htm,by rw [Zb];exact YA x.1,x.2⟩
   · rw [x] at hd
     obtain ⟨j,p,hj,hp,hh⟩:=h.h2 i hi hd
     have e : j ≠ t:=fun e=>by
      subst e
      rw [ht] at hp;cases hp
      exact y hh
     exact ⟨j,p,hj,by rw [Zi _ _ _ _ e];exact hp,hh⟩
   · rw [x] at hd;cases hd
theorem MS.new {m n K : Nat} {s : Sto} {cs : Nat → Option Kop} {S : List Item} {A : Nat → Prop} (h : MS m n K s cs S A) {t : Nat} (ht : cs t = none) {o : Kop} (ho : KopOk n K s S A o) (hth : o.th = (t : Int)) (hno : ∀ i,¬ o.hnd i) (hnl : ∀ i,i < 4 → ¬ o.Hd i) : MS m n K s (upd cs t (some o)) S A:=by
 have hne : ∀ {j p},cs j = some p → j ≠ t:=fun hj e=>by rw [e,ht] at hj;cases hj
 refine ⟨h.sb,h.thr,fun j p hj hp=>?_,fun i hi=>?_,fun j j' p p' i hj hj' hp hp' a b=>?_,fun i j p hi hj hp hd=>?_,fun i hi hd=>?_⟩
 · by_cases e : j = t
   · subst e;rw [Zb] at hp;cases hp;exact ⟨ho,hth⟩
   · rw [Zi _ _ _ _ e] at hp;exact h.ops j p hj hp
 · obtain ⟨j,p,hj,hp,hh⟩:=h.hnd i hi
   exact ⟨j,p,hj,by rw [Zi _ _ _ _ (hne hp)];exact hp,hh⟩
 · by_cases e : j = t
   · subst e;rw [Zb] at hp;cases hp;exact absurd a (hno i)
   · by_cases e' : j' = t
     · subst e';rw [Zb] at hp';cases hp';exact absurd b (hno i)
     · rw [Zi _ _ _ _ e] at hp
       rw [Zi _ _ _ _ e'] at hp'
       exact h.ex j j' p p' i hj hj' hp hp' a b
 · by_cases e : j = t
   · subst e;rw [Zb] at hp;cases hp;exact absurd hd (hnl i hi)
   · rw [Zi _ _ _ _ e] at hp;exact h.h1 i j p hi hj hp hd
 · obtain ⟨j,p,hj,hp,hh⟩:=h.h2 i hi hd
   exact ⟨j,p,hj,by rw [Zi _ _ _ _ (hne hp)];exact hp,hh⟩
theorem Kop.new_ok {n K : Nat} {s : Sto} {S : List Item} {A : Nat → Prop} {th : Int} (h0 : 0 ≤ th) (c : Cl) : KopOk n K s S A (.new th c) ∧ (Kop.new th c).th = th ∧ (∀ i,¬ (Kop.new th c).hnd i) ∧ ∀ i,i < 4 → ¬ (Kop.new th c).Hd i:=by
 unfold Kop.new
 split
 · refine ⟨IOk.new h0 _,rfl,fun i y=>?_,fun i _ y=>?_⟩
   · have y : (IOp.new th c.t).hnd i:=y
     have:=y.1;cases this
   · have y : (IOp.new th c.t).Hd i:=y
     rcases y with y | ⟨_,y | y⟩
     · simp [IOp.new,hdL] at y
     · cases y
     · cases y
 split
 · exact ⟨⟨⟨fun y=>(by cases y),fun y=>(by cases y)⟩,h0,fun y=>(by cases y),.inl rfl,rfl⟩,rfl,fun i y=>y,fun i _ y=>y⟩
 split
 · refine ⟨⟨BOk.new h0 c,fun y=>(by simp [BOp.new] at y),fun _=>⟨rfl,rfl,rfl,rfl⟩,Nat.le_refl _,Int.le_refl 0,(by show (0 : Int) ≤ 80003;decide)⟩,rfl,fun i y=>?_,fun i _ y=>?_⟩
   · obtain ⟨k,_,hg⟩:=(show (BOp.new th c).hnd i from y)
     simp [BOp.new] at hg
   · have y : i < (BOp.new th c).held:=y
     simp [BOp.new] at y
 · exact ⟨⟨h0,rfl⟩,rfl,fun i y=>y,fun i _ y=>y⟩
structure Same (s s' : Sto) : Prop where
 slot : ∀ j,s'.slot j = s.slot j
 st : ∀ j,s'.st j = s.st j
 gn : ∀ j,s'.gn j = s.gn j
 next : s'.next = s.next
 idle : s'.idle = s.idle
theorem Same.refl (s : Sto) : Same s s:=⟨fun _=>rfl,fun _=>rfl,fun _=>rfl,rfl,rfl⟩
theorem Same.trans {a b c : Sto} (h : Same a b) (k : Same b c) : Same a c:=
 ⟨fun j=>(k.slot j).trans (h.slot j),fun j=>(k.st j).trans (h.st j),fun j=>(k.gn j).trans (h.gn j),k.next.trans h.next,k.idle.trans h.idle⟩
theorem Same.mem {s : Sto} {m : Mem} (h : m.words = s.m.words) : Same s { s with m:=m }:=
 ⟨fun _=>rfl,fun j=>by unfold Sto.st Mem.word;dsimp only;rw [h],fun j=>by unfold Sto.gn Mem.word;dsimp only;rw [h],rfl,rfl⟩
theorem Same.take {s : Sto} (hw : s.m.words.length ≠ 0) (th : Int) (q : Lad) : Same s (s.take th q):=
 ⟨fun _=>rfl,fun j=>by unfold Sto.st;rw [Zag hw],fun j=>by unfold Sto.gn;rw [Zag hw],rfl,rfl⟩
theorem Same.touch (s : Sto) (th : Int) (l : List Nat) : Same s (s.touch th l):=.mem (Zg th l s.m).1
inductive BStep (n : Nat) (s s' : Sto) (S S' : List Item) (A : Nat → Prop) (o o' : BOp) : Prop
 | bad (hb : o.bad) (e : o' = { o with e:=1,eff:=true,blk:=false }) (es : s' = s) (eS : S' = S)
 | no (hb : ¬ o.bad) (h1 : o.scn = false) (h2 : o.held < 4) (hl : (s.m.held o.held).1 = true) (e : o' = { o with eff:=false,blk:=true }) (es : s' = { s with m:=(s.m.lock o.th o.held).1 }) (ks : Same s s') (eS : S' = S)
 | lock (hb : ¬ o.bad) (h1 : o.scn = false) (h2 : o.held < 4) (hl : (s.m.held o.held).1 = false) (e : o' = { o with held:=o.held + 1,eff:=false,blk:=false }) (ks : Same s s') (eS : S' = S)
 | take (hb : ¬ o.bad) (h1 : o.scn = false) (h2 : o.held = 4) (h3 : o.cl = true) {i : Nat} (hS : S = o.it :: S') (hi : i < n) (hx : o.it = s.item i) (hA : ¬ A i) (hl : s.st i ≠ 0) (hw : s.m.word (i + 1) = o.w)
  (e : o' = { o with cl:=false,rem:=o.rem ++ [(i : Int)],ev:=o.ev ++ [((s.slot i).time,64 * s.gn i + i)],eff:=false,blk:=false })
  (k1 : ∀ j,s'.slot j = s.slot j) (k2 : ∀ j,s'.st j = if j = i then 2 else s.st j) (k3 : ∀ j,s'.gn j = s.gn j) (k4 : s'.next = s.next) (k5 : s'.idle = s.idle)
 | miss (hb : ¬ o.bad) (h1 : o.scn = false) (h2 : o.held = 4) (h3 : o.cl = true) {i : Nat} {T : List Item} (hS : S = o.it :: T) (hi : i < n) (hx : o.it = s.item i) (hw : s.m.word (i + 1) ≠ o.w) (e : o' = { o with cl:=false,eff:=false,blk:=false }) (ks : Same s s') (eS : S' = S)
 | drop (hb : ¬ o.bad) (h1 : o.scn = false) (h2 : o.held = 4) (h3 : o.cl = false) {i : Nat} {x : Item} {w : Int} (hS : S = x :: S') (hi : i < n) (hx : x = s.item i) (hA : ¬ A i) (hc : x.time < o.c.b ∧ (o.ev.length : Int) ≠ o.c.m) (hst : s.st i = 3)
  (e : o' = { o with it:=x,w:=w,cl:=false,rem:=o.rem ++ [(i : Int)],eff:=false,blk:=false }) (ks : Same s s')
 | claim (hb : ¬ o.bad) (h1 : o.scn = false) (h2 : o.held = 4) (h3 : o.cl = false) {i : Nat} {x : Item} {T : List Item} (hS : S = x :: T) (hi : i < n) (hx : x = s.item i) (hA : ¬ A i) (hc : x.time < o.c.b ∧ (o.ev.length : Int) ≠ o.c.m) (hst : s.st i ≠ 3)
  (e : o' = { o with it:=x,w:=s.m.word (i + 1),cl:=true,eff:=false,blk:=false }) (ks : Same s s') (kw : ∀ j,s'.m.word (j + 1) = s.m.word (j + 1)) (eS : S' = S)
 | fin (hb : ¬ o.bad) (h1 : o.scn = false) (h2 : o.held = 4) (h3 : o.cl = false) (hc : ∀ x T,S = x :: T → o.c.b ≤ x.time ∨ (o.ev.length : Int) = o.c.m) (e : o' = { o with scn:=true,eff:=true,blk:=false }) (ks : Same s s') (eS : S' = S)
 | free (hb : ¬ o.bad) (h1 : o.scn = true) (h2 : o.nf < o.rem.length) {i : Nat} (hi : i < n) (hg : o.rem[o.nf]? = some (i : Int)) (e : o' = { o with nf:=o.nf + 1,eff:=false,blk:=false })
  (k1 : ∀ j,s'.slot j = if j = i then ⟨0,0,0,0⟩ else s.slot j) (k2 : ∀ j,s'.st j = if j = i then 0 else s.st j) (k3 : ∀ j,s'.gn j = if j = i then s.gn j + 1 else s.gn j) (k4 : s'.next = s.next) (k5 : s'.idle = s.idle ++ [(i : Int)]) (eS : S' = S)
 | unl (hb : ¬ o.bad) (h1 : o.scn = true) (h2 : ¬ o.nf < o.rem.length) (e : o' = { o with held:=o.held - 1,rv:=decide (o.held = 1),eff:=false,blk:=false }) (ks : Same s s') (eS : S' = S)
theorem BOp.cases {n K K' : Nat} {s : Sto} {S S' : List Item} {A A' : Nat → Prop} (h : SB n s S A K) (hK : K + 1 ≤ 20000) {o : BOp} (ho : KBat n s S A o) (h' : SOk n (o.step s).2 S' A' K') :
 BStep n s (o.step s).2 S S' A o (o.step s).1:=by
 have hw0 : s.m.words.length ≠ 0:=by rw [h.nw];omega
 have h4:=ho.ok.held
 by_cases hb : o.bad
 · have e : o.step s = ({ o with e:=1,eff:=true,blk:=false },s):=by unfold BOp.step;rw [if_pos hb]
   rw [e] at h' ⊢
   exact .bad hb rfl rfl (h.toSOk.uniq h' rfl)
 by_cases c1 : o.scn = false ∧ o.held < 4
 · have e : o.step s = o.lock s:=by unfold BOp.step;rw [if_neg hb,if_pos c1]
   rw [e] at h' ⊢
   obtain ⟨a1,_⟩:=s.m.lock_same o.th o.held
   have eS : S' = S:=h.toSOk.uniq h' (by unfold BOp.lock;rfl)
   unfold BOp.lock
   by_cases hl : (s.m.lock o.th o.held).2 = true
   · rw [if_pos hl]
     refine .lock hb c1.1 c1.2 (Mem.held_lock hl (by rw [h.nm];omega) o.held).2 rfl (.mem a1) eS
   · rw [if_neg hl]
     have hl : (s.m.lock o.th o.held).2 = false:=by simpa using hl
     exact .no hb c1.1 c1.2 (Mem.held_nolock hl o.held).2 rfl rfl (.mem a1) eS
 by_cases c2 : o.cl = true
 · obtain ⟨hsc,hh4⟩:=ho.all c2
   obtain ⟨T,rfl⟩:=ho.ok.clm c2
   have e : o.step s = o.take s:=by unfold BOp.step;rw [if_neg hb,if_neg c1,if_pos c2]
   rw [e] at h' ⊢
   obtain ⟨i,hi,hx,hl,hA⟩:=h.itm o.it List.mem_cons_self
   have hsl : o.it.slot = (i : Int):=by rw [hx];rfl
   have htn : o.it.slot.toNat = i:=by omega
   have hwl : i + 1 < s.m.words.length:=by rw [h.nw];omega
   unfold BOp.take at h' ⊢
   rw [htn] at h' ⊢
   by_cases hw : s.m.word (i + 1) = o.w
   · have hcas : s.m.cas o.th (i + 1) o.w (4 * (o.w / 4) + 2) = (s.m.put o.th 3 (i + 1) (4 * (o.w / 4) + 2) true,true):=by unfold Mem.cas;rw [if_pos hw]
     rw [hcas,if_pos rfl] at h' ⊢
     dsimp only at h' ⊢
     have hgn : 4 * (o.w / 4) + 2 = 4 * s.gn i + 2:=by unfold Sto.gn;rw [hw]
     have hm:=h.toSOk.mark hi hl o.th 3 true (v:=4 * (o.w / 4) + 2) (by rw [hgn];omega) (by omega)
     have mw:=ZbY hwl o.th 3 true (v:=4 * (o.w / 4) + 2) (by rw [hgn];omega)
     obtain ⟨i',b1,b2,b3,b4,b5⟩:=hm.drop o.th
     have eS : S' = T:=b5.uniq h' rfl
     subst eS
     have kt:=Same.take (s:={ s with m:=s.m.put o.th 3 (i + 1) (4 * (o.w / 4) + 2) true }) (by show (s.m.words.set _ _).length ≠ 0;rw [List.length_set];exact hw0) o.th (ZaH s.q).1
     refine .take hb hsc hh4 c2 rfl hi hx hA hl hw ?_ (fun j=>rfl) (fun j=>?_) (fun j=>(kt.gn j).trans (mw j).1) rfl rfl
     · have e1 : o.it.time = (s.slot i).time:=by rw [hx];rfl
       have e2 : o.w / 4 = s.gn i:=by unfold Sto.gn;rw [hw]
       rw [e1,e2,hsl]
     · refine (kt.st j).trans ((mw j).2.trans ?_)
       by_cases c : j = i
       · rw [if_pos c,if_pos c];omega
       · rw [if_neg c,if_neg c]
   · have hcas : s.m.cas o.th (i + 1) o.w (4 * (o.w / 4) + 2) = (s.m.put o.th 3 (i + 1) (s.m.word (i + 1)) false,false):=by unfold Mem.cas;rw [if_neg hw]
     rw [hcas,if_neg Bool.false_ne_true] at h' ⊢
     dsimp only at h' ⊢
     exact .miss hb hsc hh4 c2 rfl hi hx hw rfl (.mem (ZV _ _ _ _ _ hwl)) (h.toSOk.uniq h' rfl)
 have hcl : o.cl = false:=by simpa using c2
 by_cases c3 : o.scn = false
 · have hh4 : o.held = 4:=by have : ¬ o.held < 4:=fun z=>c1 ⟨c3,z⟩;omega
   have e : o.step s = o.scan s:=by unfold BOp.step;rw [if_neg hb,if_neg c1,if_neg c2,if_pos c3]
   rw [e] at h' ⊢
   obtain ⟨p1,p2⟩:=h.toSOk.peekS
   have k1:=h.toSOk.peek o.th
   have kp : Same s (s.peekF o.th):=.take hw0 _ _
   unfold BOp.scan at h' ⊢
   rw [p1,p2] at h' ⊢
   by_cases c4 : decide (S ≠ []) = true ∧ (Q8 S).time < o.c.b ∧ (o.ev.length : Int) ≠ o.c.m
   · rw [if_pos c4] at h' ⊢
     obtain ⟨x,T,rfl⟩ : ∃ x T,S = x :: T:=by
      cases S with
      | nil=>simp at c4
      | cons x T=>exact ⟨x,T,rfl⟩
     rw [show Q8 (x :: T) = x from rfl] at h' ⊢ c4
     obtain ⟨i,hi,hx,hl,hA⟩:=h.itm x List.mem_cons_self
     have hsl : x.slot = (i : Int):=by rw [hx];rfl
     have htn : x.slot.toNat = i:=by omega
     rw [htn] at h' ⊢
     have hlook : s.lookF o.th = { s.peekF o.th with m:=(s.peekF o.th).m.load o.th (i + 1) }:=by unfold Sto.lookF;rw [p1,show Q8 (x :: T) = x from rfl,htn]
     have hwl : i + 1 < (s.peekF o.th).m.words.length:=by have:=k1.nw;show i + 1 < (s.take o.th (ZH s.q)).m.words.length;omega
     have hws : ((s.peekF o.th).m.load o.th (i + 1)).words = (s.peekF o.th).m.words:=ZV _ _ _ _ _ hwl
     have k2 : SOk n (s.lookF o.th) (x :: T) A K:=by rw [hlook];exact SOk.same k1 hws k1.nm
     have kl : Same s (s.lookF o.th):=kp.trans (by rw [hlook];exact .mem hws)
     have ew : (s.peekF o.th).m.word (i + 1) = s.m.word (i + 1):=Zag hw0 i
     rw [ew] at h' ⊢
     by_cases c5 : s.m.word (i + 1) % 4 = 3
     · rw [if_pos c5] at h' ⊢
       dsimp only at h' ⊢
       obtain ⟨i',b1,b2,b3,b4,b5⟩:=k2.drop o.th
       have eS : S' = T:=b5.uniq h' rfl
       subst eS
       refine .drop hb c3 hh4 hcl rfl hi hx hA c4.2 c5 (by rw [hsl]) (kl.trans (.take (by rw [k2.nw];omega) _ _))
     · rw [if_neg c5] at h' ⊢
       dsimp only at h' ⊢
       refine .claim hb c3 hh4 hcl rfl hi hx hA c4.2 c5 rfl kl (fun j=>?_) (k2.uniq h' rfl)
       have e1 : (s.lookF o.th).m.word (j + 1) = (s.peekF o.th).m.word (j + 1):=by rw [hlook];unfold Mem.word;dsimp only;rw [hws]
       exact e1.trans (Zag hw0 j)
   · rw [if_neg c4] at h' ⊢
     refine .fin hb c3 hh4 hcl (fun x T hS=>?_) rfl kp (k1.uniq h' rfl)
     subst hS
     rw [show Q8 (x :: T) = x from rfl] at c4
     by_cases d : x.time < o.c.b
     · right
       exact Classical.byContradiction fun z=>c4 ⟨by simp,d,z⟩
     · left;omega
 have hscn : o.scn = true:=by simpa using c3
 by_cases c4 : o.nf < o.rem.length
 · have e : o.step s = o.free s:=by unfold BOp.step;rw [if_neg hb,if_neg c1,if_neg c2,if_neg c3,if_pos c4]
   rw [e] at h' ⊢
   have hg:=List.getElem?_eq_getElem c4
   generalize o.rem[o.nf] = x at hg
   obtain ⟨i,hi,rfl⟩:=ho.ok.int o.nf x hg
   have hgd : (o.rem.getD o.nf 0).toNat = i:=by rw [List.getD_eq_getElem?_getD,hg];show ((i : Int)).toNat = i;omega
   have hA:=(ho.ok.inh i ⟨o.nf,Nat.le_refl _,hg⟩).2
   have ht:=h.toSOk.touch o.th [3]
   have kt:=Same.touch s o.th [3]
   obtain ⟨b1,b2,b3⟩:=ht.free o.th hA hK
   unfold BOp.free at h' ⊢
   rw [hgd] at h' ⊢
   dsimp only at h' ⊢
   have fw:=Zen (s:=s.touch o.th [3]) (i:=i) (by rw [ht.nw];omega) o.th (ht.wd i hi).1
   refine .free hb hscn c4 hi hg rfl (fun j=>?_) (fun j=>?_) (fun j=>?_) rfl rfl (h.toSOk.uniq h' rfl)
   · exact Sto.slot_set (s.touch o.th [3]) i _ j (by rw [ht.ns];exact hi)
   · rw [(fw j).2,kt.st]
   · rw [(fw j).1,kt.gn]
 · have e : o.step s = o.unlock s:=by unfold BOp.step;rw [if_neg hb,if_neg c1,if_neg c2,if_neg c3,if_neg c4]
   rw [e] at h' ⊢
   exact .unl hb hscn c4 rfl (.mem (s.m.unlock_same o.th _).1) (h.toSOk.uniq h' rfl)
inductive CStep (n : Nat) (s s' : Sto) (o o' : COp) : Prop
 | out (hs : ¬ ∃ i,i < n ∧ ZM o.h = (i : Int)) (e : o'.ph = 2 ∧ o'.done = false ∧ o'.blk = false) (es : s' = s)
 | stale {i : Nat} (hi : i < n) (hs : ZM o.h = (i : Int)) (hp : o.ph = 0) (hst : s.gn i ≠ Zdi o.h ∨ s.st i = 0 ∨ s.st i = 3) (e : o'.ph = 2 ∧ o'.done = false ∧ o'.blk = false) (ks : Same s s')
 | wait {i : Nat} (hi : i < n) (hs : ZM o.h = (i : Int)) (hp : o.ph = 0) (hg : s.gn i = Zdi o.h) (hst : s.st i = 2) (e : o'.ph = 0 ∧ o'.done = false ∧ o'.blk = true) (ks : Same s s') (km : s'.m.mtx = s.m.mtx)
 | seen {i : Nat} (hi : i < n) (hs : ZM o.h = (i : Int)) (hp : o.ph = 0) (hg : s.gn i = Zdi o.h) (hst : s.st i = 1) (e : o'.ph = 1 ∧ o'.done = false ∧ o'.blk = false) (ks : Same s s')
 | swap {i : Nat} (hi : i < n) (hs : ZM o.h = (i : Int)) (hp : o.ph = 1) (hg : s.gn i = Zdi o.h) (hst : s.st i = 1) (e : o'.ph = 2 ∧ o'.done = true ∧ o'.blk = false)
  (k1 : ∀ j,s'.slot j = s.slot j) (k2 : ∀ j,s'.st j = if j = i then 3 else s.st j) (k3 : ∀ j,s'.gn j = s.gn j) (k4 : s'.next = s.next) (k5 : s'.idle = s.idle)
 | miss {i : Nat} (hi : i < n) (hs : ZM o.h = (i : Int)) (hp : o.ph = 1) (hst : ¬ (s.gn i = Zdi o.h ∧ s.st i = 1)) (e : o'.ph = 0 ∧ o'.done = false ∧ o'.blk = false) (ks : Same s s')
theorem COp.cases {n K : Nat} {s : Sto} {S : List Item} {A : Nat → Prop} (h : SB n s S A K) {o : COp} (ho : KCan K o) : CStep n s (Zs o s).2 o (Zs o s).1:=by
 have hd:=ho.dn
 have hw:=h.wds
 unfold Zs
 by_cases hs : o.has s
 · rw [if_pos hs]
   have hk : ZM o.h = (o.sl : Int):=by have:=hs.1;unfold COp.sl;omega
   have hks : o.sl < s.slots.length:=by have:=hs.2;omega
   have hi : o.sl < n:=by rw [← h.ns];exact hks
   have hwl : o.sl + 1 < s.m.words.length:=by rw [hw.lt];omega
   generalize o.sl = i at *
   have hwd:=(h.wd i hi).1
   by_cases hp : o.ph = 1
   · rw [if_pos hp]
     obtain ⟨s1,s2⟩:=ho.seen hp
     dsimp only
     by_cases e : s.m.word (i + 1) = o.seen
     · have hc : s.m.cas o.th (i + 1) o.seen o.new = (s.m.put o.th 3 (i + 1) o.new true,true):=by unfold Mem.cas;rw [if_pos e]
       rw [hc,decide_eq_true e]
       have mw:=ZbY hwl o.th 3 true (v:=o.new) (by unfold COp.new Sto.gn;omega)
       refine .swap hi hk hp (by unfold Sto.gn;omega) (by unfold Sto.st;omega) ⟨rfl,rfl,rfl⟩ (fun _=>rfl) (fun j=>(mw j).2.trans ?_) (fun j=>(mw j).1) rfl rfl
       have : o.new % 4 = 3:=by unfold COp.new;omega
       rw [this]
     · have hc : s.m.cas o.th (i + 1) o.seen o.new = (s.m.put o.th 3 (i + 1) (s.m.word (i + 1)) false,false):=by unfold Mem.cas;rw [if_neg e]
       rw [hc,decide_eq_false e]
       refine .miss hi hk hp (fun z=>e ?_) ⟨rfl,hd,rfl⟩ (.mem (ZV _ _ _ _ _ hwl))
       have z1:=z.1
       have z2:=z.2
       unfold Sto.gn at z1
       unfold Sto.st at z2
       omega
   · rw [if_neg hp]
     have hp0 : o.ph = 0:=by rcases ho.ph with y | y;exact y;exact absurd y hp
     have ks : Same s { s with m:=s.m.load o.th (i + 1) }:=.mem (ZV _ _ _ _ _ hwl)
     have hst : s.st i = s.m.word (i + 1) % 4:=rfl
     have hgn : s.gn i = s.m.word (i + 1) / 4:=rfl
     dsimp only
     unfold COp.load
     cases hz : Zcs (s.m.word (i + 1)) (Zdi o.cl.h) with
     | true=>
      rw [if_pos rfl]
      refine .stale hi hk hp0 ?_ ⟨rfl,hd,rfl⟩ ks
      unfold Zcs at hz
      simp only [Bool.or_eq_true,Bool.not_eq_true',decide_eq_true_eq,decide_eq_false_iff_not] at hz
      rw [hgn,hst]
      exact hz
     | false=>
      rw [if_neg Bool.false_ne_true]
      unfold Zcs at hz
      simp only [Bool.or_eq_false_iff,Bool.not_eq_false',decide_eq_true_eq,decide_eq_false_iff_not] at hz
      by_cases c : s.m.word (i + 1) % 4 = 2
      · rw [if_pos c]
        exact .wait hi hk hp0 (by rw [hgn];exact hz.1) (by rw [hst];exact c) ⟨hp0,hd,rfl⟩ ks rfl
      · rw [if_neg c]
        exact .seen hi hk hp0 (by rw [hgn];exact hz.1) (by rw [hst];have:=hz.2;omega) ⟨rfl,hd,rfl⟩ ks
 · rw [if_neg hs]
   refine .out (fun ⟨i,hi,e⟩=>hs ⟨by rw [e];omega,by rw [e,h.ns];omega⟩) ⟨rfl,hd,rfl⟩ rfl
end Go.Proofs.YtdjnjchpgccbiaaGreat.Abs
