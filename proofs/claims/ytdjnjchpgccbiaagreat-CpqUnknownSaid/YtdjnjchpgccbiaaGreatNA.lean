/- Batches as a state machine: states, steps, blocks. -/
import Derived.Test.YtdjnjchpgccbiaaGreatJB
import Derived.Test.YtdjnjchpgccbiaaGreatMB
import Derived.Test.YtdjnjchpgccbiaaGreatMP
namespace Go.Proofs.YtdjnjchpgccbiaaGreat.Abs
open Go.Proofs
set_option maxRecDepth 10000
set_option linter.unusedSimpArgs false
set_option linter.unusedVariables false
structure BOp where
 th : Int
 c : Cl
 held : Nat
 scn : Bool
 it : Item
 w : Int
 cl : Bool
 rem : List Int
 nf : Nat
 ev : List (Int × Int)
 e : Int
 rv : Bool
 eff : Bool
 blk : Bool
def BOp.new (th : Int) (c : Cl) : BOp:=⟨th,c,0,false,⟨0,0,0⟩,0,false,[],0,[],0,false,false,false⟩
def BOp.bad (o : BOp) : Prop:=o.c.m < 0 ∨ 64 < o.c.m
instance (o : BOp) : Decidable o.bad:=inferInstanceAs (Decidable (_ ∨ _))
def BOp.lock (o : BOp) (s : Sto) : BOp × Sto:=
 (if (s.m.lock o.th o.held).2 = true then { o with held:=o.held + 1,eff:=false,blk:=false } else { o with eff:=false,blk:=true },{ s with m:=(s.m.lock o.th o.held).1 })
def Sto.dropF (s : Sto) (th : Int) : Sto:=s.take th (ZaH s.q).1
def BOp.take (o : BOp) (s : Sto) : BOp × Sto:=
 if (s.m.cas o.th (o.it.slot.toNat + 1) o.w (4 * (o.w / 4) + 2)).2 = true then
  ({ o with cl:=false,rem:=o.rem ++ [o.it.slot],ev:=o.ev ++ [(o.it.time,64 * (o.w / 4) + o.it.slot)],eff:=false,blk:=false },Sto.dropF { s with m:=(s.m.cas o.th (o.it.slot.toNat + 1) o.w (4 * (o.w / 4) + 2)).1 } o.th)
 else ({ o with cl:=false,eff:=false,blk:=false },{ s with m:=(s.m.cas o.th (o.it.slot.toNat + 1) o.w (4 * (o.w / 4) + 2)).1 })
def Sto.peekF (s : Sto) (th : Int) : Sto:=s.take th (ZH s.q)
def Sto.lookF (s : Sto) (th : Int) : Sto:={ s.peekF th with m:=(s.peekF th).m.load th ((Yf s.q).2.1.slot.toNat + 1) }
def BOp.scan (o : BOp) (s : Sto) : BOp × Sto:=
 if (Yf s.q).2.2 = true ∧ (Yf s.q).2.1.time < o.c.b ∧ (o.ev.length : Int) ≠ o.c.m then
  if (s.peekF o.th).m.word ((Yf s.q).2.1.slot.toNat + 1) % 4 = 3 then
   ({ o with it:=(Yf s.q).2.1,w:=(s.peekF o.th).m.word ((Yf s.q).2.1.slot.toNat + 1),cl:=false,rem:=o.rem ++ [(Yf s.q).2.1.slot],eff:=false,blk:=false },(s.lookF o.th).dropF o.th)
  else ({ o with it:=(Yf s.q).2.1,w:=(s.peekF o.th).m.word ((Yf s.q).2.1.slot.toNat + 1),cl:=true,eff:=false,blk:=false },s.lookF o.th)
 else ({ o with scn:=true,eff:=true,blk:=false },s.peekF o.th)
def BOp.free (o : BOp) (s : Sto) : BOp × Sto:=({ o with nf:=o.nf + 1,eff:=false,blk:=false },(s.touch o.th [3]).free1 o.th ((o.rem.getD o.nf 0).toNat))
def BOp.unlock (o : BOp) (s : Sto) : BOp × Sto:=({ o with held:=o.held - 1,rv:=decide (o.held = 1),eff:=false,blk:=false },{ s with m:=(s.m.unlock o.th (o.held - 1)).1 })
def BOp.step (o : BOp) (s : Sto) : BOp × Sto:=
 if o.bad then ({ o with e:=1,eff:=true,blk:=false },s)
 else if o.scn = false ∧ o.held < 4 then o.lock s
 else if o.cl = true then o.take s
 else if o.scn = false then o.scan s
 else if o.nf < o.rem.length then o.free s
 else o.unlock s
def BOp.done (o : BOp) : Bool:=o.rv || decide (o.e = 1)
def evD (p : Int × Int) : List D:=[.c (.int .i64 p.1),.c (.int .i64 p.2)]
def Zr4 (l : List Int) (nf n : Nat) : V:=match nf with
 | 0=>.ac n 1 l.length
 | k + 1=>.sl n 1 (k + 1) (l.length - (k + 1))
def evV (l : List (Int × Int)) (n : Nat) : V:=.ac n 2 l.length
def rvV (rv : Bool) (l : List (Int × Int)) (n : Nat) : V:=match rv with
 | true=>evV l n
 | false=>.c (.slice none 0 0)
def ZpI (o : BOp) (st a b : Nat) : B:=
 .rows 22 [[.p st 10 0 0,V.int o.th,V.int o.c.k,V.int o.c.t,V.int o.c.h,V.int o.c.m,V.int o.c.b,V.int o.held,V.bool o.scn,V.int o.it.time,V.int o.it.seq,V.int o.it.slot,V.int o.w,V.bool o.cl,Zr4 o.rem o.nf a,evV o.ev b,
  V.int o.e,V.int 0,V.bool false,rvV o.rv o.ev b,V.bool o.eff,V.bool o.blk]]
def Zq9 (o : BOp) : B:=.dat 1 (o.rem.map QF)
def evB (o : BOp) : B:=.dat 2 (o.ev.map evD)
def bB0 (o : BOp) (s : Sto) : List (Nat × B):=[(0,ZpI o 3 1 2),(1,Zq9 o),(2,evB o)] ++ ZY s 3 5
def bB1 (o : BOp) (s : Sto) : List (Nat × B):=[(0,ZpI o 3 8 9),(8,Zq9 o),(9,evB o)] ++ ZY s 3 10
def BOp.hnd (o : BOp) (i : Nat) : Prop:=∃ k,o.nf ≤ k ∧ o.rem[k]? = some (i : Int)
structure BOk (n : Nat) (s : Sto) (S : List Item) (A : Nat → Prop) (o : BOp) : Prop where
 th0 : 0 ≤ o.th
 held : o.held ≤ 4
 nf : o.nf ≤ o.rem.length
 early : o.scn = false → o.nf = 0 ∧ (o.held < 4 → o.cl = false ∧ o.rem = [] ∧ o.ev = [])
 late : o.scn = true → o.cl = false ∧ 1 ≤ o.held
 res : o.rv = false ∧ o.e = 0
 inh : ∀ i,o.hnd i → i < n ∧ A i
 int : ∀ (k : Nat) (x : Int),o.rem[k]? = some x → ∃ i : Nat,i < n ∧ x = (i : Int)
 nd : (o.rem.drop o.nf).Nodup
 clm : o.cl = true → ∃ T,S = o.it :: T
theorem BOk.new {n : Nat} {s : Sto} {S : List Item} {A : Nat → Prop} {th : Int} (h : 0 ≤ th) (c : Cl) : BOk n s S A (.new th c):=by
 refine ⟨h,Nat.zero_le _,Nat.zero_le _,fun _=>⟨rfl,fun _=>⟨rfl,rfl,rfl⟩⟩,fun x=>(by cases x),⟨rfl,rfl⟩,fun i hi=>?_,fun k x hk=>?_,?_,fun x=>(by cases x)⟩
 · obtain ⟨k,_,hk⟩:=hi;simp [BOp.new] at hk
 · simp [BOp.new] at hk
 · simp [BOp.new]
theorem Zbg {s : Sto} {th : Int} {q : Lad} : (s.take th q).m.mtx = s.m.mtx ∧ (s.take th q).m.log.length ≤ s.m.log.length + 1 ∧ s.m.viol ≤ (s.take th q).m.viol ∧ (s.take th q).m.viol ≤ s.m.viol + 3:=by
 obtain ⟨t1,t2,t3,t4,t5⟩:=Zg th [0,1,2] s.m
 unfold Sto.take Sto.replace Sto.touch
 dsimp only
 split
 · exact ⟨t2,by rw [t3];omega,t4,by simpa using t5⟩
 · exact ⟨t2,by show ((s.m.touches th [0,1,2]).log ++ _).length ≤ _;rw [List.length_append,t3];simp,t4,by show (s.m.touches th [0,1,2]).viol ≤ _;simpa using t5⟩
theorem Zag {s : Sto} {th : Int} {q : Lad} (hw : s.m.words.length ≠ 0) (j : Nat) : (s.take th q).m.word (j + 1) = s.m.word (j + 1):=by
 obtain ⟨t1,_⟩:=Zg th [0,1,2] s.m
 have e : ∀ k,(s.m.touches th [0,1,2]).word k = s.m.word k:=fun k=>by unfold Mem.word;rw [t1]
 unfold Sto.take Sto.replace Sto.touch
 dsimp only
 split
 · exact e _
 · show ((s.m.touches th [0,1,2]).put th 4 0 q.topStart true).word (j + 1) = _
   rw [Mem.word_put _ _ _ _ _ _ _ (by rw [t1];omega),if_neg (by omega)]
   exact e _
theorem SB.takeF {n : Nat} {s : Sto} {S T : List Item} {A B : Nat → Prop} {K : Nat} (h : SB n s S A K) (hK : K + 1 ≤ 20000) (ht : s.m.Thr) {th : Int} {q : Lad} (hq : SOk n (s.take th q) T B K) : SB n (s.take th q) T B (K + 1) ∧ (s.take th q).m.Thr:=by
 obtain ⟨t1,t2,t3,t4⟩:=Zbg (s:=s) (th:=th) (q:=q)
 have:=h.log
 have:=h.viol
 exact ⟨⟨hq.mono (by omega) hK,by omega,by push_cast;omega⟩,Yd ht t1⟩
theorem SOk.peekS {n : Nat} {s : Sto} {S : List Item} {A : Nat → Prop} {K : Nat} (h : SOk n s S A K) : (Yf s.q).2.1 = Q8 S ∧ (Yf s.q).2.2 = decide (S ≠ []):=by
 obtain ⟨k,hk,hq⟩:=h.q
 have hb : k ≤ 100000:=by have:=h.kb;omega
 have e1:=(hq.first hb).1
 have e3:=(hq.peek hb).2.2
 rw [e3,e1];exact ⟨rfl,rfl⟩
theorem BOk.dropped {n : Nat} {s s1 : Sto} {x : Item} {T : List Item} {A : Nat → Prop} {o o' : BOp} {i : Nat} (ho : BOk n s (x :: T) A o) (hx : x.slot = (i : Int)) (hi : i < n) (hA : ¬ A i) (hnf : o.nf = 0) (hlt : ¬ o.held < 4) (h1 : o'.th = o.th) (h2 : o'.held = o.held) (h3 : o'.nf = o.nf) (h4 : o'.scn = o.scn) (h5 : o'.cl = false) (h6 : o'.rem = o.rem ++ [x.slot]) (h7 : o'.rv = o.rv ∧ o'.e = o.e) :
 BOk n s1 T (fun j=>A j ∨ j = i) o' ∧ ∀ j,(A j ∨ j = i) ↔ (A j ∧ ¬ o.hnd j) ∨ o'.hnd j:=by
 have hh : ∀ j,o'.hnd j ↔ o.hnd j ∨ j = i:=fun j=>by
  unfold BOp.hnd
  rw [h3,h6,hnf]
  constructor
  · rintro ⟨k,_,hk⟩
    rcases Zdn hk with ⟨q1,q2⟩ | ⟨q1,q2⟩
    · exact .inl ⟨k,Nat.zero_le _,q1⟩
    · right
      have : (j : Int) = x.slot:=q2
      omega
  · rintro (⟨k,_,hk⟩ | rfl)
    · refine ⟨k,Nat.zero_le _,?_⟩
      rw [List.getElem?_append_left (List.getElem?_eq_some_iff.1 hk).1];exact hk
    · exact ⟨o.rem.length,Nat.zero_le _,by rw [List.getElem?_append_right (Nat.le_refl _),Nat.sub_self,hx];rfl⟩
 refine ⟨⟨by rw [h1];exact ho.th0,by rw [h2];exact ho.held,by rw [h3,hnf];exact Nat.zero_le _,fun y=>?_,fun y=>?_,by rw [h7.1,h7.2];exact ho.res,fun j hj=>?_,fun k y hk=>?_,?_,fun y=>by rw [h5] at y;cases y⟩,fun j=>?_⟩
 · rw [h4] at y
   exact ⟨by rw [h3];exact hnf,fun z=>absurd (by rw [h2] at z;exact z) hlt⟩
 · rw [h4] at y
   exact ⟨h5,by rw [h2];exact (ho.late y).2⟩
 · rcases (hh j).1 hj with c | rfl
   · exact ⟨(ho.inh j c).1,.inl (ho.inh j c).2⟩
   · exact ⟨hi,.inr rfl⟩
 · rw [h6] at hk
   rcases Zdn hk with ⟨q1,q2⟩ | ⟨q1,q2⟩
   · exact ho.int k y q1
   · exact ⟨i,hi,by rw [q2];exact hx⟩
 · rw [h3,hnf,List.drop_zero,h6]
   have hd:=ho.nd
   rw [hnf,List.drop_zero] at hd
   refine List.nodup_append.2 ⟨hd,by simp,fun a ha b hb e=>?_⟩
   rw [List.mem_singleton] at hb
   obtain ⟨k,hk⟩:=List.mem_iff_getElem?.1 ha
   refine hA (ho.inh i ⟨k,by rw [hnf];exact Nat.zero_le _,?_⟩).2
   rw [hk,e,hb,hx]
 · rw [hh j]
   constructor
   · rintro (c | c)
     · by_cases d : o.hnd j
       · exact .inr (.inl d)
       · exact .inl ⟨c,d⟩
     · exact .inr (.inr c)
   · rintro (c | c | c)
     · exact .inl c.1
     · exact .inl (ho.inh j c).2
     · exact .inr c
theorem QZ {o o' : BOp} (h1 : o'.rem = o.rem) (h2 : o'.nf = o.nf) (i : Nat) : o'.hnd i ↔ o.hnd i:=by unfold BOp.hnd;rw [h1,h2]
theorem BOk.same {n : Nat} {s s1 : Sto} {S : List Item} {A : Nat → Prop} {o o' : BOp} (ho : BOk n s S A o) (h1 : o'.th = o.th) (h2 : o'.held = o.held) (h3 : o'.nf = o.nf) (h4 : o'.scn = o.scn) (h5 : o'.rem = o.rem) (h6 : o'.rv = o.rv ∧ o'.e = o.e) (h7 : o'.ev = o.ev) (h8 : o'.cl = true → o.scn = false ∧ ¬ o.held < 4 ∧ ∃ T,S = o'.it :: T) : BOk n s1 S A o':=by
 refine ⟨by rw [h1];exact ho.th0,by rw [h2];exact ho.held,by rw [h3,h5];exact ho.nf,fun y=>?_,fun y=>?_,by rw [h6.1,h6.2];exact ho.res,fun i hi=>ho.inh i ((QZ h5 h3 i).1 hi),by rw [h5];exact ho.int,by rw [h5,h3];exact ho.nd,fun y=>(h8 y).2.2⟩
 · rw [h4] at y
   obtain ⟨a1,a2⟩:=ho.early y
   refine ⟨by rw [h3];exact a1,fun z=>?_⟩
   rw [h2] at z
   refine ⟨?_,by rw [h5];exact (a2 z).2.1,by rw [h7];exact (a2 z).2.2⟩
   cases hc : o'.cl with
   | false=>rfl
   | true=>exact absurd z (h8 hc).2.1
 · rw [h4] at y
   refine ⟨?_,by rw [h2];exact (ho.late y).2⟩
   cases hc : o'.cl with
   | false=>rfl
   | true=>have:=(h8 hc).1;rw [y] at this;cases this
theorem ZlY {A : Nat → Prop} {n : Nat} {s : Sto} {S : List Item} {o o' : BOp} (ho : BOk n s S A o) (hh : ∀ i,o'.hnd i ↔ o.hnd i) (i : Nat) : A i ↔ (A i ∧ ¬ o.hnd i) ∨ o'.hnd i:=by
 rw [hh]
 constructor
 · intro c
   by_cases d : o.hnd i
   · exact .inr d
   · exact .inl ⟨c,d⟩
 · rintro (c | c)
   · exact c.1
   · exact (ho.inh i c).2
theorem BOp.step_ok {n K : Nat} {s : Sto} {S : List Item} {A : Nat → Prop} (h : SB n s S A K) (hK : K + 1 ≤ 20000) (ht : s.m.Thr) {o : BOp} (ho : BOk n s S A o) (hb : ¬ o.bad) :
 ∃ S' A',SB n (o.step s).2 S' A' (K + 1) ∧ (o.step s).2.m.Thr ∧ ((o.step s).1.done = false → BOk n (o.step s).2 S' A' (o.step s).1) ∧ (∀ i,A' i ↔ (A i ∧ ¬ o.hnd i) ∨ (o.step s).1.hnd i) ∧ (o.step s).1.th = o.th:=by
 unfold BOp.step
 rw [if_neg hb]
 by_cases c1 : o.scn = false ∧ o.held < 4
 · rw [if_pos c1]
   obtain ⟨a1,a2,a3,a4⟩:=s.m.lock_same o.th o.held
   unfold BOp.lock
   dsimp only
   refine ⟨S,A,h.mem a1 a2 (by omega) (by omega) hK,ZiN ht ho.th0 o.held,fun _=>?_,?_,?_⟩
   · obtain ⟨e1,e2⟩:=ho.early c1.1
     obtain ⟨e2,e3,e4⟩:=e2 c1.2
     split
     · refine ⟨ho.th0,by show o.held + 1 ≤ 4;omega,ho.nf,fun y=>⟨e1,fun _=>⟨e2,e3,e4⟩⟩,fun y=>(by rw [c1.1] at y;cases y),ho.res,fun i hi=>ho.inh i hi,ho.int,ho.nd,fun y=>(by have y : o.cl = true:=y;rw [e2] at y;cases y)⟩
     · exact ho.same rfl rfl rfl rfl rfl ⟨rfl,rfl⟩ rfl fun y=>(by have y : o.cl = true:=y;rw [e2] at y;cases y)
   · intro i
     refine ZlY ho (fun j=>?_) i
     split <;> exact Iff.rfl
   · split <;> rfl
 rw [if_neg c1]
 by_cases c2 : o.cl = true
 · rw [if_pos c2]
   obtain ⟨T,rfl⟩:=ho.clm c2
   have hsc : o.scn = false:=by
    cases hs : o.scn with
    | false=>rfl
    | true=>have:=(ho.late hs).1;rw [c2] at this;cases this
   have hh4 : ¬ o.held < 4:=fun z=>c1 ⟨hsc,z⟩
   obtain ⟨i,hi,hx,hl,hA⟩:=h.itm o.it List.mem_cons_self
   have hsl : o.it.slot = (i : Int):=by rw [hx];rfl
   have htn : o.it.slot.toNat = i:=by omega
   have h1:=h.log
   have h2:=h.viol
   unfold BOp.take
   rw [htn]
   by_cases hw : s.m.word (i + 1) = o.w
   · have hcas : s.m.cas o.th (i + 1) o.w (4 * (o.w / 4) + 2) = (s.m.put o.th 3 (i + 1) (4 * (o.w / 4) + 2) true,true):=by unfold Mem.cas;rw [if_pos hw]
     rw [hcas,if_pos rfl]
     dsimp only
     have hm:=h.toSOk.mark hi hl o.th 3 true (v:=4 * (o.w / 4) + 2) (by unfold Sto.gn;rw [hw];omega) (by omega)
     have hbm : SB n { s with m:=s.m.put o.th 3 (i + 1) (4 * (o.w / 4) + 2) true } (o.it :: T) A K → True:=fun _=>trivial
     obtain ⟨i',b1,b2,b3,b4,b5⟩:=hm.drop o.th
     have hii : i' = i:=by
      have e1 : o.it.slot = (i' : Int):=by rw [b2];rfl
      omega
     subst hii
     obtain ⟨t1,t2,t3,t4⟩:=Zbg (s:={ s with m:=s.m.put o.th 3 (i' + 1) (4 * (o.w / 4) + 2) true }) (th:=o.th) (q:=(ZaH s.q).1)
     obtain ⟨d1,d2⟩:=ho.dropped (s1:=Sto.dropF { s with m:=s.m.put o.th 3 (i' + 1) (4 * (o.w / 4) + 2) true } o.th) (o':={ o with cl:=false,rem:=o.rem ++ [o.it.slot],ev:=o.ev ++ [(o.it.time,64 * (o.w / 4) + o.it.slot)],eff:=false,blk:=false }) hsl hi hA (ho.early hsc).1 hh4 rfl rfl rfl rfl rfl rfl ⟨rfl,rfl⟩
     refine ⟨T,_,⟨b5.mono (by omega) hK,?_,?_⟩,?_,fun _=>d1,d2,rfl⟩
     · have e1 : (s.m.put o.th 3 (i' + 1) (4 * (o.w / 4) + 2) true).log.length = s.m.log.length + 1:=by simp [Mem.put]
       have e2 : (Sto.dropF { s with m:=s.m.put o.th 3 (i' + 1) (4 * (o.w / 4) + 2) true } o.th).m.log.length ≤ (s.m.put o.th 3 (i' + 1) (4 * (o.w / 4) + 2) true).log.length + 1:=t2
       omega
     · have e2 : s.m.viol ≤ (Sto.dropF { s with m:=s.m.put o.th 3 (i' + 1) (4 * (o.w / 4) + 2) true } o.th).m.viol:=t3
       have e3 : (Sto.dropF { s with m:=s.m.put o.th 3 (i' + 1) (4 * (o.w / 4) + 2) true } o.th).m.viol ≤ s.m.viol + 3:=t4
       push_cast;omega
     · exact Yd (Yd (m:=s.m) (m':=s.m.put o.th 3 (i' + 1) (4 * (o.w / 4) + 2) true) ht rfl) t1
   · have hcas : s.m.cas o.th (i + 1) o.w (4 * (o.w / 4) + 2) = (s.m.put o.th 3 (i + 1) (s.m.word (i + 1)) false,false):=by unfold Mem.cas;rw [if_neg hw]
     rw [hcas,if_neg Bool.false_ne_true]
     dsimp only
     have hwl : i + 1 < s.m.words.length:=by rw [h.nw];omega
     refine ⟨o.it :: T,A,h.mem (ZV _ _ _ _ _ hwl) rfl (by simp [Mem.put]) (by show s.m.viol ≤ s.m.viol ∧ s.m.viol ≤ _;omega) hK,Yd ht rfl,fun _=>ho.same rfl rfl rfl rfl rfl ⟨rfl,rfl⟩ rfl fun y=>(by cases y),ZlY ho fun j=>Iff.rfl,rfl⟩
 rw [if_neg c2]
 have hcl : o.cl = false:=by simpa using c2
 by_cases c3 : o.scn = false
 · rw [if_pos c3]
   have hh4 : ¬ o.held < 4:=fun z=>c1 ⟨c3,z⟩
   obtain ⟨p1,p2⟩:=h.toSOk.peekS
   have hlog:=h.log
   have hvi:=h.viol
   have k1:=h.toSOk.peek o.th
   obtain ⟨t1,t2,t3,t4⟩:=Zbg (s:=s) (th:=o.th) (q:=ZH s.q)
   unfold BOp.scan
   rw [p1,p2]
   by_cases c4 : decide (S ≠ []) = true ∧ (Q8 S).time < o.c.b ∧ (o.ev.length : Int) ≠ o.c.m
   · rw [if_pos c4]
     obtain ⟨x,T,rfl⟩ : ∃ x T,S = x :: T:=by
      cases S with
      | nil=>simp at c4
      | cons x T=>exact ⟨x,T,rfl⟩
     rw [show Q8 (x :: T) = x from rfl]
     obtain ⟨i,hi,hx,hl,hA⟩:=h.itm x List.mem_cons_self
     have hsl : x.slot = (i : Int):=by rw [hx];rfl
     have htn : x.slot.toNat = i:=by omega
     rw [htn]
     have hlook : s.lookF o.th = { s.peekF o.th with m:=(s.peekF o.th).m.load o.th (i + 1) }:=by unfold Sto.lookF;rw [p1,show Q8 (x :: T) = x from rfl,htn]
     have hwl : i + 1 < (s.peekF o.th).m.words.length:=by have:=k1.nw;show i + 1 < (s.take o.th (ZH s.q)).m.words.length;omega
     have hws : ((s.peekF o.th).m.load o.th (i + 1)).words = (s.peekF o.th).m.words:=ZV _ _ _ _ _ hwl
     have k2 : SOk n (s.lookF o.th) (x :: T) A K:=by rw [hlook];exact SOk.same k1 hws k1.nm
     have l2 : (s.lookF o.th).m.log.length = (s.peekF o.th).m.log.length + 1:=by rw [hlook];simp [Mem.load,Mem.put]
     have v2 : (s.lookF o.th).m.viol = (s.peekF o.th).m.viol:=by rw [hlook];rfl
     have x2 : (s.lookF o.th).m.mtx = s.m.mtx:=by rw [hlook];exact t1
     have e1 : (s.peekF o.th).m.log.length ≤ s.m.log.length + 1:=t2
     have e2 : s.m.viol ≤ (s.peekF o.th).m.viol:=t3
     have e3 : (s.peekF o.th).m.viol ≤ s.m.viol + 3:=t4
     by_cases c5 : (s.peekF o.th).m.word (i + 1) % 4 = 3
     · rw [if_pos c5]
       dsimp only
       obtain ⟨i',b1,b2,b3,b4,b5⟩:=k2.drop o.th
       have hii : i' = i:=by
        have e1 : x.slot = (i' : Int):=by rw [b2];rfl
        omega
       subst hii
       obtain ⟨r1,r2,r3,r4⟩:=Zbg (s:=s.lookF o.th) (th:=o.th) (q:=(ZaH (s.lookF o.th).q).1)
       obtain ⟨d1,d2⟩:=ho.dropped (s1:=(s.lookF o.th).dropF o.th) (o':={ o with it:=x,w:=(s.peekF o.th).m.word (i' + 1),cl:=false,rem:=o.rem ++ [x.slot],eff:=false,blk:=false }) hsl hi hA (ho.early c3).1 hh4 rfl rfl rfl rfl rfl rfl ⟨rfl,rfl⟩
       have e4 : ((s.lookF o.th).dropF o.th).m.log.length ≤ (s.lookF o.th).m.log.length + 1:=r2
       have e5 : (s.lookF o.th).m.viol ≤ ((s.lookF o.th).dropF o.th).m.viol:=r3
       have e6 : ((s.lookF o.th).dropF o.th).m.viol ≤ (s.lookF o.th).m.viol + 3:=r4
       exact ⟨T,_,⟨b5.mono (by omega) hK,by omega,by push_cast;omega⟩,Yd (Yd ht x2) r1,fun _=>d1,d2,rfl⟩
     · rw [if_neg c5]
       exact ⟨x :: T,A,⟨k2.mono (by omega) hK,by dsimp only;omega,by dsimp only;push_cast;omega⟩,Yd ht x2,fun _=>ho.same rfl rfl rfl rfl rfl ⟨rfl,rfl⟩ rfl fun _=>⟨c3,hh4,T,rfl⟩,ZlY ho fun j=>Iff.rfl,rfl⟩
   · rw [if_neg c4]
     refine ⟨S,A,⟨k1.mono (by omega) hK,?_,?_⟩,Yd ht t1,fun _=>?_,ZlY ho fun j=>Iff.rfl,rfl⟩
     · show (s.take o.th (ZH s.q)).m.log.length ≤ _;omega
     · show 0 ≤ (s.take o.th (ZH s.q)).m.viol ∧ (s.take o.th (ZH s.q)).m.viol ≤ _;push_cast;omega
     · exact ⟨ho.th0,ho.held,ho.nf,fun y=>(by cases y),fun _=>⟨hcl,by dsimp only;omega⟩,ho.res,ho.inh,ho.int,ho.nd,fun y=>(by have y : o.cl = true:=y;rw [hcl] at y;cases y)⟩
 rw [if_neg c3]
 have hscn : o.scn = true:=by simpa using c3
 obtain ⟨_,hh1⟩:=ho.late hscn
 by_cases c4 : o.nf < o.rem.length
 · rw [if_pos c4]
   have hg:=List.getElem?_eq_getElem c4
   generalize o.rem[o.nf] = x at hg
   obtain ⟨i,hi,rfl⟩:=ho.int o.nf x hg
   have hgd : (o.rem.getD o.nf 0).toNat = i:=by rw [List.getD_eq_getElem?_getD,hg];show ((i : Int)).toNat = i;omega
   have hA:=(ho.inh i ⟨o.nf,Nat.le_refl _,hg⟩).2
   obtain ⟨b1,b2,b3⟩:=(h.toSOk.touch o.th [3]).free o.th hA hK
   obtain ⟨t1,t2,t3,t4,t5⟩:=Zg o.th [3] s.m
   have hlog:=h.log
   have hvi:=h.viol
   have hdr : o.rem.drop o.nf = (i : Int) :: o.rem.drop (o.nf + 1):=by
    rw [List.drop_eq_getElem_cons c4]
    congr 1
    have:=List.getElem?_eq_getElem c4
    rw [hg] at this;exact (Option.some.inj this).symm
   have hnd:=ho.nd
   rw [hdr,List.nodup_cons] at hnd
   unfold BOp.free
   rw [hgd]
   dsimp only
   have hh : ∀ j,BOp.hnd { o with nf:=o.nf + 1,eff:=false,blk:=false } j ↔ o.hnd j ∧ j ≠ i:=fun j=>by
    unfold BOp.hnd
    dsimp only
    constructor
    · rintro ⟨k,hk,hg2⟩
      refine ⟨⟨k,by omega,hg2⟩,fun e=>hnd.1 ?_⟩
      subst e
      refine List.mem_of_getElem? (i:=k - (o.nf + 1)) ?_
      rw [List.getElem?_drop,show o.nf + 1 + (k - (o.nf + 1)) = k by omega];exact hg2
    · rintro ⟨⟨k,hk,hg2⟩,hne⟩
      refine ⟨k,?_,hg2⟩
      rcases Nat.lt_or_ge o.nf k with c | c
      · exact c
      · have e : k = o.nf:=by omega
        subst e
        rw [hg] at hg2
        have:=Option.some.inj hg2
        omega
   refine ⟨S,_,⟨b1,?_,?_⟩,Yd ht t2,fun _=>?_,fun j=>?_,rfl⟩
   · show ((s.m.touches o.th [3]).log ++ _).length ≤ _
     rw [List.length_append,t3,List.length_singleton];omega
   · show 0 ≤ (s.m.touches o.th [3]).viol ∧ (s.m.touches o.th [3]).viol ≤ _
     simp only [List.length_cons,List.length_nil] at t5
     push_cast;omega
   · exact ⟨ho.th0,ho.held,c4,fun y=>absurd y c3,fun y=>ho.late y,ho.res,fun j hj=>by
      obtain ⟨c,d⟩:=(hh j).1 hj
      exact ⟨(ho.inh j c).1,(ho.inh j c).2,d⟩,ho.int,hnd.2,fun y=>ho.clm y⟩
   · rw [hh j]
     constructor
     · rintro ⟨c,d⟩
       by_cases e : o.hnd j
       · exact .inr ⟨e,d⟩
       · exact .inl ⟨c,e⟩
     · rintro (⟨c,d⟩ | ⟨c,d⟩)
       · exact ⟨c,fun e=>d (by rw [e];exact ⟨o.nf,Nat.le_refl _,hg⟩)⟩
       · exact ⟨(ho.inh j c).2,d⟩
 rw [if_neg c4]
 have hno : ∀ i,¬ o.hnd i:=fun i ⟨k,hk,hg⟩=>by
  have:=(List.getElem?_eq_some_iff.1 hg).1
  omega
 unfold BOp.unlock
 dsimp only
 obtain ⟨a1,a2,a3,a4,a5⟩:=s.m.unlock_same o.th (o.held - 1)
 refine ⟨S,A,h.mem a1 a2 (by omega) (by omega) hK,ZcN ht o.th _,fun hd=>?_,ZlY ho fun j=>Iff.rfl,rfl⟩
 have hne : ¬ o.held = 1:=fun e=>by
  unfold BOp.done at hd
  simp [e] at hd
 refine ⟨ho.th0,by show o.held - 1 ≤ 4;have:=ho.held;omega,ho.nf,fun y=>?_,fun _=>⟨hcl,by show 1 ≤ o.held - 1;omega⟩,⟨decide_eq_false hne,ho.res.2⟩,ho.inh,ho.int,ho.nd,fun y=>(by have y : o.cl = true:=y;rw [hcl] at y;cases y)⟩
 have y : o.scn = false:=y
 rw [hscn] at y;cases y
end Go.Proofs.YtdjnjchpgccbiaaGreat.Abs
