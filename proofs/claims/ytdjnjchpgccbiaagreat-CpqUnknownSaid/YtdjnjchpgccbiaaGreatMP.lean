/- Insertions of many threads beside the reference: the walk. -/
import Derived.Test.YtdjnjchpgccbiaaGreatMB
import Derived.Test.YtdjnjchpgccbiaaGreatJB
import Derived.Test.YtdjnjchpgccbiaaGreatHB
namespace Go.Proofs.YtdjnjchpgccbiaaGreat.Abs
open Go.Proofs
set_option maxRecDepth 10000
set_option linter.unusedSimpArgs false
set_option linter.unusedVariables false
def IOp.Hd (o : IOp) (i : Nat) : Prop:=((i : Int) ∈ hdL o.hd) ∨ (i = 3 ∧ (o.pc = .alloc ∨ o.pc = .leave))
theorem Mem.held_lock {m : Mem} {th : Int} {i : Nat} (hl : (m.lock th i).2 = true) (hi : i < m.mtx.length) (j : Nat) : (m.lock th i).1.held j = (if j = i then (true,th) else m.held j) ∧ (m.held i).1 = false:=by
 unfold Mem.lock at hl ⊢
 split at hl
 · cases hl
 · next h=>
   rw [if_neg h]
   refine ⟨?_,by simpa using h⟩
   unfold Mem.held
   dsimp only
   rw [List.getElem?_set]
   by_cases e : i = j
   · subst e;rw [if_pos rfl,if_pos hi,if_pos rfl];rfl
   · rw [if_neg e,if_neg (fun x=>e x.symm)]
theorem Mem.held_nolock {m : Mem} {th : Int} {i : Nat} (hl : (m.lock th i).2 = false) (j : Nat) : (m.lock th i).1.held j = m.held j ∧ (m.held i).1 = true:=by
 unfold Mem.lock at hl ⊢
 split at hl
 · next h=>rw [if_pos h];exact ⟨rfl,h⟩
 · cases hl
theorem Mem.held_unlock {m : Mem} {th : Int} {i : Nat} (h : m.held i = (true,th)) (hi : i < m.mtx.length) (j : Nat) : (m.unlock th i).1.held j = (if j = i then (false,0) else m.held j) ∧ (m.unlock th i).1.viol = m.viol:=by
 unfold Mem.unlock
 rw [if_pos h]
 refine ⟨?_,rfl⟩
 unfold Mem.held
 dsimp only
 rw [List.getElem?_set]
 by_cases e : i = j
 · subst e;rw [if_pos rfl,if_pos hi,if_pos rfl];rfl
 · rw [if_neg e,if_neg (fun x=>e x.symm)]
theorem Zin {s : Sto} {th t : Int} {l : List Int} {i : Nat} (hi : i < s.slots.length) (j : Nat) : (s.alloc1 th t l i).slot j = if j = i then ⟨0,0,t,s.next⟩ else s.slot j:=Sto.slot_set s i _ j hi
structure StepE (o o1 : IOp) : Prop where
 eff : o1.eff = (!o.pc.late && o1.pc.late)
 keep : o.pc.late = true → o1.e = o.e ∧ o1.h = o.h ∧ o1.pc.late = true
theorem Zpn {n : Nat} {s : Sto} {A : Nat → Prop} {o : IOp} (ho : IOk n A o) : StepE o (o.step s).1:=by
 obtain ⟨shp,th0,early,tm,full,won,hand⟩:=ho
 obtain ⟨th,x,pc,hd,hh,e,ok,ef,bl⟩:=o
 dsimp only at shp early
 have lock : ∀ (i : Nat) (p q : PC),pc = p → p.late = false → q.late = false → StepE ⟨th,x,pc,hd,hh,e,ok,ef,bl⟩ (IOp.lock ⟨th,x,pc,hd,hh,e,ok,ef,bl⟩ s i q).1:=by
  rintro i p q rfl h1 h2
  unfold IOp.lock
  split
  · exact ⟨by dsimp only;rw [h1,h2];rfl,fun y=>by dsimp only at y;rw [h1] at y;cases y⟩
  · exact ⟨by dsimp only;rw [h1];rfl,fun y=>by dsimp only at y;rw [h1] at y;cases y⟩
 have alloc : pc = .alloc → StepE ⟨th,x,pc,hd,hh,e,ok,ef,bl⟩ (IOp.step ⟨th,x,pc,hd,hh,e,ok,ef,bl⟩ s).1:=by
  rintro rfl
  unfold IOp.step
  dsimp only
  split
  · exact ⟨rfl,fun y=>by cases y⟩
  · exact ⟨rfl,fun y=>by cases y⟩
 have rls : (pc = .put ∨ pc = .rel) → StepE ⟨th,x,pc,hd,hh,e,ok,ef,bl⟩ (IOp.step ⟨th,x,pc,hd,hh,e,ok,ef,bl⟩ s).1:=by
  rintro (rfl | rfl)
  · refine ⟨rfl,fun _=>⟨rfl,rfl,?_⟩⟩
    show (if (hdL hd).length ≤ 1 then PC.ret else PC.rel).late = true
    split <;> rfl
  · refine ⟨rfl,fun _=>⟨rfl,rfl,?_⟩⟩
    show (if (hdL hd).length ≤ 1 then PC.ret else PC.rel).late = true
    split <;> rfl
 cases shp with
 | start=>
  unfold IOp.step
  dsimp only
  split
  · exact ⟨rfl,fun y=>by cases y⟩
  · split <;> exact ⟨rfl,fun y=>by cases y⟩
 | top=>exact lock 0 .top .conf rfl rfl rfl
 | r0=>exact lock 1 .rungs .choose rfl rfl rfl
 | r1=>exact lock 1 .rungs .choose rfl rfl rfl
 | bottom=>exact lock 2 .bottom .arena rfl rfl rfl
 | a0=>exact lock 3 .arena .alloc rfl rfl rfl
 | a1=>exact lock 3 .arena .alloc rfl rfl rfl
 | a2=>exact lock 3 .arena .alloc rfl rfl rfl
 | conf=>
  unfold IOp.step
  dsimp only
  split <;> exact ⟨rfl,fun y=>by cases y⟩
 | undo=>exact ⟨rfl,fun y=>by cases y⟩
 | choose=>
  unfold IOp.step
  dsimp only
  split <;> exact ⟨rfl,fun y=>by cases y⟩
 | l0=>exact alloc rfl
 | l1=>exact alloc rfl
 | l2=>exact alloc rfl
 | v0=>exact ⟨rfl,fun _=>⟨rfl,rfl,rfl⟩⟩
 | v1=>exact ⟨rfl,fun _=>⟨rfl,rfl,rfl⟩⟩
 | v2=>exact ⟨rfl,fun _=>⟨rfl,rfl,rfl⟩⟩
 | p0=>exact rls (.inl rfl)
 | p1=>exact rls (.inl rfl)
 | p2=>exact rls (.inl rfl)
 | rel=>exact rls (.inr rfl)
theorem Zkv {n : Nat} {s : Sto} {S : List Item} {A : Nat → Prop} {K : Nat} (h : SB n s S A K) {o : IOp} (ho : IOk n A o) :
 ((∀ i,(o.step s).2.slot i = s.slot i) ∧ (o.step s).2.idle = s.idle ∧ (o.step s).2.next = s.next ∧ (∀ j,(o.step s).2.st j = s.st j ∧ (o.step s).2.gn j = s.gn j) ∧ ((o.step s).1.eff = true → (o.step s).1.e = 1 ∨ ((o.step s).1.e = 10 ∧ s.idle = []))) ∨
 ∃ l i,s.idle = l ++ [((i : Nat) : Int)] ∧ i < n ∧ s.st i = 0 ∧ (o.step s).2 = (s.touch o.th [3]).alloc1 o.th o.t l i ∧ (o.step s).1.eff = true ∧ (o.step s).1.e = 0 ∧ (o.step s).1.h = 64 * s.gn i + i:=by
 have hwl : 0 < s.m.words.length:=by rw [h.nw];omega
 obtain ⟨shp,th0,early,tm,full,won,hand⟩:=ho
 obtain ⟨th,x,pc,hd,hh,e,ok,ef,bl⟩:=o
 dsimp only at shp early
 have wd : ∀ (m : Mem),m.words = s.m.words → ∀ j,Sto.st { s with m:=m } j = s.st j ∧ Sto.gn { s with m:=m } j = s.gn j:=fun m hm j=>by
  unfold Sto.st Sto.gn Mem.word;dsimp only;rw [hm];exact ⟨rfl,rfl⟩
 have wd2 : ∀ (s1 : Sto),s1.m.words = s.m.words → ∀ j,s1.st j = s.st j ∧ s1.gn j = s.gn j:=fun s1 hm j=>by
  unfold Sto.st Sto.gn Mem.word;rw [hm];exact ⟨rfl,rfl⟩
 have lock : ∀ (i : Nat) (p q : PC),pc = p → (IOp.step ⟨th,x,pc,hd,hh,e,ok,ef,bl⟩ s) = (IOp.lock ⟨th,x,pc,hd,hh,e,ok,ef,bl⟩ s i q) →
  ((∀ i,(IOp.step ⟨th,x,pc,hd,hh,e,ok,ef,bl⟩ s).2.slot i = s.slot i) ∧ (IOp.step ⟨th,x,pc,hd,hh,e,ok,ef,bl⟩ s).2.idle = s.idle ∧ (IOp.step ⟨th,x,pc,hd,hh,e,ok,ef,bl⟩ s).2.next = s.next ∧ (∀ j,(IOp.step ⟨th,x,pc,hd,hh,e,ok,ef,bl⟩ s).2.st j = s.st j ∧ (IOp.step ⟨th,x,pc,hd,hh,e,ok,ef,bl⟩ s).2.gn j = s.gn j) ∧ ((IOp.step ⟨th,x,pc,hd,hh,e,ok,ef,bl⟩ s).1.eff = true → (IOp.step ⟨th,x,pc,hd,hh,e,ok,ef,bl⟩ s).1.e = 1 ∨ ((IOp.step ⟨th,x,pc,hd,hh,e,ok,ef,bl⟩ s).1.e = 10 ∧ s.idle = []))):=by
  intro i p q hp he
  rw [he]
  unfold IOp.lock
  split
  · exact ⟨fun _=>rfl,rfl,rfl,wd _ (s.m.lock_same th i).1,fun y=>by cases y⟩
  · exact ⟨fun _=>rfl,rfl,rfl,wd _ (s.m.lock_same th i).1,fun y=>by cases y⟩
 have alloc : pc = .alloc →
  ((∀ i,(IOp.step ⟨th,x,pc,hd,hh,e,ok,ef,bl⟩ s).2.slot i = s.slot i) ∧ (IOp.step ⟨th,x,pc,hd,hh,e,ok,ef,bl⟩ s).2.idle = s.idle ∧ (IOp.step ⟨th,x,pc,hd,hh,e,ok,ef,bl⟩ s).2.next = s.next ∧ (∀ j,(IOp.step ⟨th,x,pc,hd,hh,e,ok,ef,bl⟩ s).2.st j = s.st j ∧ (IOp.step ⟨th,x,pc,hd,hh,e,ok,ef,bl⟩ s).2.gn j = s.gn j) ∧ ((IOp.step ⟨th,x,pc,hd,hh,e,ok,ef,bl⟩ s).1.eff = true → (IOp.step ⟨th,x,pc,hd,hh,e,ok,ef,bl⟩ s).1.e = 1 ∨ ((IOp.step ⟨th,x,pc,hd,hh,e,ok,ef,bl⟩ s).1.e = 10 ∧ s.idle = []))) ∨
  ∃ l i,s.idle = l ++ [((i : Nat) : Int)] ∧ i < n ∧ s.st i = 0 ∧ (IOp.step ⟨th,x,pc,hd,hh,e,ok,ef,bl⟩ s).2 = (s.touch th [3]).alloc1 th x l i ∧ (IOp.step ⟨th,x,pc,hd,hh,e,ok,ef,bl⟩ s).1.eff = true ∧ (IOp.step ⟨th,x,pc,hd,hh,e,ok,ef,bl⟩ s).1.e = 0 ∧ (IOp.step ⟨th,x,pc,hd,hh,e,ok,ef,bl⟩ s).1.h = 64 * s.gn i + i:=by
  rintro rfl
  obtain ⟨rfl,rfl,rfl⟩:=early rfl
  obtain ⟨t1,t2,t3,t4,t5⟩:=Zg th [3] s.m
  unfold IOp.step
  dsimp only
  rcases h.last with hid | ⟨l,i,hid,hi,h1,_⟩
  · left
    rw [Zaf hid,if_neg Bool.false_ne_true]
    exact ⟨fun _=>rfl,rfl,rfl,wd2 (s.touch th [3]) t1,fun _=>.inr ⟨rfl,hid⟩⟩
  · right
    rw [QM hid,if_pos rfl]
    exact ⟨l,i,hid,hi,h1,rfl,rfl,rfl,rfl⟩
 have ul : ∀ (s1 : Sto) (j : Nat) (o1 : IOp),o1.eff = false → s1.m.words = s.m.words → s1.slots = s.slots → s1.idle = s.idle → s1.next = s.next →
  ((∀ i,Sto.slot { s1 with m:=(s1.m.unlock th j).1 } i = s.slot i) ∧ s1.idle = s.idle ∧ s1.next = s.next ∧ (∀ k,Sto.st { s1 with m:=(s1.m.unlock th j).1 } k = s.st k ∧ Sto.gn { s1 with m:=(s1.m.unlock th j).1 } k = s.gn k) ∧ (o1.eff = true → o1.e = 1 ∨ (o1.e = 10 ∧ s.idle = []))):=by
  intro s1 j o1 h1 h2 h3 h4 h5
  refine ⟨fun i=>?_,h4,h5,wd2 _ ((s1.m.unlock_same th j).1.trans h2),fun y=>by rw [h1] at y;cases y⟩
  unfold Sto.slot;dsimp only;rw [h3]
 have put : (IOp.putS ⟨th,x,pc,hd,hh,e,ok,ef,bl⟩ s).m.words = s.m.words ∧ (IOp.putS ⟨th,x,pc,hd,hh,e,ok,ef,bl⟩ s).slots = s.slots ∧ (IOp.putS ⟨th,x,pc,hd,hh,e,ok,ef,bl⟩ s).idle = s.idle ∧ (IOp.putS ⟨th,x,pc,hd,hh,e,ok,ef,bl⟩ s).next = s.next:=by
  unfold IOp.putS
  dsimp only
  split
  · exact ⟨(Zg th _ s.m).1,rfl,rfl,rfl⟩
  · exact ⟨rfl,rfl,rfl,rfl⟩
 obtain ⟨u1,u2,u3,u4⟩:=put
 cases shp with
 | start=>
  left
  unfold IOp.step
  dsimp only
  split
  · exact ⟨fun _=>rfl,rfl,rfl,fun _=>⟨rfl,rfl⟩,fun _=>.inl rfl⟩
  · exact ⟨fun _=>rfl,rfl,rfl,wd _ (ZV _ _ _ _ _ hwl),fun y=>by cases y⟩
 | top=>exact .inl (lock 0 .top .conf rfl rfl)
 | r0=>exact .inl (lock 1 .rungs .choose rfl rfl)
 | r1=>exact .inl (lock 1 .rungs .choose rfl rfl)
 | bottom=>exact .inl (lock 2 .bottom .arena rfl rfl)
 | a0=>exact .inl (lock 3 .arena .alloc rfl rfl)
 | a1=>exact .inl (lock 3 .arena .alloc rfl rfl)
 | a2=>exact .inl (lock 3 .arena .alloc rfl rfl)
 | conf=>exact .inl ⟨fun _=>rfl,rfl,rfl,wd _ (ZV _ _ _ _ _ hwl),fun y=>by cases y⟩
 | undo=>exact .inl (ul s _ _ rfl rfl rfl rfl rfl)
 | choose=>exact .inl ⟨fun _=>rfl,rfl,rfl,wd2 (s.touch th [1]) (Zg th [1] s.m).1,fun y=>by cases y⟩
 | l0=>exact alloc rfl
 | l1=>exact alloc rfl
 | l2=>exact alloc rfl
 | v0=>exact .inl (ul s _ _ rfl rfl rfl rfl rfl)
 | v1=>exact .inl (ul s _ _ rfl rfl rfl rfl rfl)
 | v2=>exact .inl (ul s _ _ rfl rfl rfl rfl rfl)
 | p0=>exact .inl (ul _ _ ⟨th,x,.ret,some ([0],0),hh,e,ok,false,false⟩ rfl u1 u2 u3 u4)
 | p1=>exact .inl (ul _ _ ⟨th,x,.ret,some ([1],0),hh,e,ok,false,false⟩ rfl u1 u2 u3 u4)
 | p2=>exact .inl (ul _ _ ⟨th,x,.rel,some ([1,2],1),hh,e,ok,false,false⟩ rfl u1 u2 u3 u4)
 | rel=>exact .inl (ul s _ ⟨th,x,.ret,some ([1,2],0),hh,e,ok,false,false⟩ rfl rfl rfl rfl rfl)
theorem Zdn {α : Type} {l : List α} {a b : α} {p : Nat} (h : (l ++ [a])[p]? = some b) : (l[p]? = some b ∧ p < l.length) ∨ (p = l.length ∧ b = a):=by
 rcases Nat.lt_trichotomy p l.length with c | c | c
 · left;rw [List.getElem?_append_left c] at h;exact ⟨h,c⟩
 · right;subst c;rw [List.getElem?_append_right (Nat.le_refl _),Nat.sub_self] at h;cases h;exact ⟨rfl,rfl⟩
 · rw [List.getElem?_eq_none (by simp;omega)] at h;cases h
end Go.Proofs.YtdjnjchpgccbiaaGreat.Abs
