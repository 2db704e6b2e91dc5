/- Insertions: the reference's methods. -/
import Derived.Test.YtdjnjchpgccbiaaGreatMA
import Derived.Test.YtdjnjchpgccbiaaGreatCA
namespace Go.Proofs.YtdjnjchpgccbiaaGreat.Abs
open Go.Proofs
set_option maxRecDepth 10000
set_option linter.unusedSimpArgs false
set_option linter.unusedVariables false
structure Cl where
 k : Int
 t : Int
 h : Int
 m : Int
 b : Int
def Cl.v (c : Cl) : V:=.agg [V.int c.k,V.int c.t,V.int c.h,V.int c.m,V.int c.b]
set_option maxHeartbeats 4000000
def dn : Nat → Int
 | 0=>2
 | 1=>1
 | _=>0
theorem SB.putF {n : Nat} {s : Sto} {S : List Item} {A : Nat → Prop} {K : Nat} (h : SB n s S A K) (ht : s.m.Thr) (th : Int) (i : Nat) : (s.put th i).Fits ∧ 4 ≤ (s.put th i).m.mtx.length ∧ (s.put th i).m.Thr:=by
 have hf:=h.fits
 have tt:=Zg th (s.putL (s.slot i).time) s.m
 have hpl : (s.putL (s.slot i).time).length ≤ 2:=by unfold Sto.putL;split;simp;split <;> simp
 have hv:=h.viol
 have hkb:=h.kb
 refine ⟨⟨⟨?_,?_,?_,?_⟩,hf.slots,hf.idle,hf.next⟩,?_,?_⟩
 · show (s.m.touches th _).log.length < _;rw [tt.2.2.1];exact hf.mem.log
 · show 0 ≤ (s.m.touches th _).viol ∧ (s.m.touches th _).viol < _;omega
 · show (s.m.touches th _).words.length < _;rw [tt.1];exact hf.mem.words
 · show (s.m.touches th _).mtx.length < _;rw [tt.2.1];exact hf.mem.mtx
 · show 4 ≤ (s.m.touches th _).mtx.length;rw [tt.2.1,h.nm];exact Nat.le_refl _
 · intro j hj
   have e : (s.put th i).m.held j = s.m.held j:=by
    show ((s.m.touches th _).mtx[j]?).getD _ = _
    rw [tt.2.1];rfl
   rw [e] at hj ⊢
   exact ht j hj
theorem ZtO (s : Sto) (th : Int) (c : Cl) : LSpec Tryz.prog 45 [.p 0 10 0 0,V.int th,c.v] (ZE s 2) 5 (.p 5 16 0 0) (ZE s 2 ++ [(5,opR (.new th c.t) 0 fun i=>5 + i)]) 17:=by
 refine lspec tab_ok mix Tryz.func45 (by kernel_rfl) (by rfl) (by rfl) (by rfl) (by rfl) ?_
 (refine go ?_; try exact tt)
 exact .mk [(5,512)] (go tt)
theorem Zna (pc : PC) (ν : Nat → Nat) : ∀ n ∈ Zc (nxV pc ν),∃ j,j < 12 ∧ n = ν j:=by
 intro n hn
 cases pc <;> simp [nxV,Zc,Zp,fnO,fnT,pO,pB] at hn
 all_goals first
  | exact ⟨0,by omega,hn⟩
  | exact ⟨2,by omega,hn⟩
  | (rcases hn with h | h | h | h
     · exact ⟨2,by omega,h⟩
     · exact ⟨3,by omega,h⟩
     · exact ⟨4,by omega,h⟩
     · exact ⟨5,by omega,h⟩)
theorem Zq3 (pc : PC) (ν σ : Nat → Nat) : ZZ σ (nxV pc ν) = nxV pc (fun i=>σ (ν i)):=by
 cases pc <;> rfl
theorem Zp9 (hd : Option (List Int × Nat)) (n : Nat) (σ : Nat → Nat) : ZZ σ (hdV hd n) = hdV hd (σ n):=by
 rcases hd with _ | ⟨l,k⟩ <;> rfl
theorem Zru (ok : Bool) (ν σ : Nat → Nat) : ZZ σ (ptV ok ν) = ptV ok (fun i=>σ (ν i)):=by
 cases ok <;> rfl
theorem ZhN (o : IOp) (st : Nat) (ν σ : Nat → Nat) (i : Nat) : ZC σ (o.blkB st ν i) = o.blkB (σ st) (fun i=>σ (ν i)) i:=by
 obtain ⟨th,t,pc,hd,h,e,ok,ef,bl⟩:=o
 unfold IOp.blkB
 dsimp only
 split
 · unfold opR
   simp only [ZC,List.map_cons,List.map_nil,ZbM,Zq3,Zp9,Zru]
   rfl
 · rcases hd with _ | ⟨l,k⟩ <;> rfl
 · cases pc <;> rfl
 · cases pc <;> rfl
 · cases pc <;> rfl
 · cases pc <;> rfl
 · cases pc <;> rfl
 · cases pc <;> rfl
 · cases pc <;> rfl
 · cases pc <;> rfl
 · cases ok <;> rfl
 · cases ok <;> rfl
 · rfl
theorem Zm5 (o : IOp) (st : Nat) (ν : Nat → Nat) (i : Nat) : ∀ n ∈ ZR (o.blkB st ν i),(∃ j,j < 12 ∧ n = ν j) ∨ n = st:=by
 obtain ⟨th,t,pc,hd,h,e,ok,ef,bl⟩:=o
 have one : ∀ {x : V} {n : Nat},n ∈ ZR (cl1 x) → n ∈ Zc x:=fun {x n} h=>by
  simpa [cl1,ZR,Zp] using h
 have hO : ∀ n,n ∈ Zc (pO ν) → (∃ j,j < 12 ∧ n = ν j) ∨ n = st:=fun n h=>.inl ⟨0,by omega,by simpa [pO,Zc] using h⟩
 have hF : ∀ f n,n ∈ Zc (fnO f ν) → (∃ j,j < 12 ∧ n = ν j) ∨ n = st:=fun f n h=>.inl ⟨0,by omega,by simpa [fnO,pO,Zc,Zp] using h⟩
 have hT : ∀ a,a + 3 < 12 → ∀ n,n ∈ Zc (fnT ν a) → (∃ j,j < 12 ∧ n = ν j) ∨ n = st:=fun a ha n h=>by
  simp [fnT,pB,Zc,Zp] at h
  left
  rcases h with h | h | h | h
  · exact ⟨a,by omega,h⟩
  · exact ⟨a + 1,by omega,h⟩
  · exact ⟨a + 2,by omega,h⟩
  · exact ⟨a + 3,by omega,h⟩
 have hI : ∀ x n,n ∉ Zc (V.int x):=fun x n h=>by simp [V.int,Zc] at h
 have hN : ∀ n,n ∉ ZR noB:=fun n h=>by simp [noB,ZR] at h
 intro n hn
 unfold IOp.blkB at hn
 dsimp only at hn
 split at hn
 · unfold opR at hn
   simp only [ZR,List.flatMap_cons,List.flatMap_nil,List.append_nil,Zp,List.mem_append] at hn
   rcases hn with h | h | h | h | h | h | h | h | h | h | h | h | h | h | h | h | h
   · right;simpa [Zc] using h
   · exact absurd h (hI _ _)
   · exact absurd h (hI _ _)
   · exact .inl (Zna pc ν n h)
   · rcases hd with _ | ⟨l,k⟩
     · simp [hdV,Zc] at h
     · exact .inl ⟨1,by omega,by simpa [hdV,Zc] using h⟩
   · cases ok
     · simp [ptV,Zc,Zp] at h
     · simp [ptV,pB,Zc,Zp] at h
       rcases h with h | h
       · exact .inl ⟨10,by omega,h⟩
       · exact .inl ⟨11,by omega,h⟩
   all_goals (first | exact absurd h (hI _ _) | simp [V.bool,Zuu,Zc,Zp] at h)
 · rcases hd with _ | ⟨l,k⟩ <;> simp [hdD,ZR] at hn
 all_goals
  first
   | (cases pc <;> (dsimp only [ZpO,ZsS,Zr1,Zsf,ZnC] at hn;first | exact absurd hn (hN _) | exact hO _ (one hn) | exact hF _ _ (one hn) | exact hT _ (by omega) _ (one hn) | exact absurd (one hn) (hI _ _)))
   | (cases ok <;> (dsimp only [ZtB] at hn;first | exact absurd hn (hN _) | exact hO _ (one hn) | exact absurd (one hn) (hI _ _)))
   | exact absurd hn (hN _)
theorem Zm7 {L : List (Nat × B)} {b : Nat} (h : (L.all fun p=>Nat.blt p.1 b && (ZR p.2).all fun n=>Nat.blt n b) = true) : ∀ p ∈ L,p.1 < b ∧ p.2.Below (Lt b):=by
 intro p hp
 have h1:=List.all_eq_true.1 h p hp
 rw [Bool.and_eq_true,Nat.blt_eq] at h1
 exact ⟨h1.1,QT fun n hn=>by have:=List.all_eq_true.1 h1.2 n hn;rwa [Nat.blt_eq] at this⟩
def IOp.hnd (o : IOp) (i : Nat) : Prop:=o.ok = true ∧ (o.pc = .leave ∨ o.pc = .put) ∧ ZM o.h = (i : Int)
theorem Mem.lock_same (m : Mem) (th : Int) (i : Nat) : (m.lock th i).1.words = m.words ∧ (m.lock th i).1.mtx.length = m.mtx.length ∧ (m.lock th i).1.log.length = m.log.length + 1 ∧ (m.lock th i).1.viol = m.viol:=by
 unfold Mem.lock
 split
 · exact ⟨rfl,rfl,by simp,rfl⟩
 · exact ⟨rfl,by simp,by simp,rfl⟩
theorem Mem.unlock_same (m : Mem) (th : Int) (i : Nat) : (m.unlock th i).1.words = m.words ∧ (m.unlock th i).1.mtx.length = m.mtx.length ∧ (m.unlock th i).1.log.length = m.log.length + 1 ∧ m.viol ≤ (m.unlock th i).1.viol ∧ (m.unlock th i).1.viol ≤ m.viol + 1:=by
 unfold Mem.unlock
 split
 · exact ⟨rfl,by simp,by simp,Int.le_refl _,by dsimp only;omega⟩
 · exact ⟨rfl,rfl,by simp,by dsimp only;omega,by dsimp only;omega⟩
theorem ZcN {m : Mem} (ht : m.Thr) (th : Int) (i : Nat) : (m.unlock th i).1.Thr:=by
 intro j hj
 unfold Mem.unlock at hj ⊢
 split at hj
 · next h=>
   rw [if_pos h]
   unfold Mem.held at hj ⊢
   dsimp only at hj ⊢
   rw [List.getElem?_set] at hj ⊢
   split at hj
   · split at hj
     · cases hj
     · cases hj
   · next h2=>rw [if_neg h2];exact ht j hj
 · next h=>rw [if_neg h];exact ht j hj
theorem Yd {m m' : Mem} (ht : m.Thr) (h : m'.mtx = m.mtx) : m'.Thr:=by
 intro j hj
 have e : m'.held j = m.held j:=by unfold Mem.held;rw [h]
 rw [e] at hj ⊢
 exact ht j hj
theorem SB.mem {n : Nat} {s : Sto} {S : List Item} {A : Nat → Prop} {K : Nat} (h : SB n s S A K) {m : Mem} (hw : m.words = s.m.words) (hm : m.mtx.length = s.m.mtx.length) (hl : m.log.length ≤ s.m.log.length + 1) (hv : s.m.viol ≤ m.viol ∧ m.viol ≤ s.m.viol + 9) (hK : K + 1 ≤ 20000) :
 SB n { s with m:=m } S A (K + 1):=by
 have h1:=h.log
 have h2:=h.viol
 exact ⟨(h.toSOk.same hw (by rw [hm];exact h.nm)).mono (by omega) hK,by show m.log.length ≤ _;omega,by show 0 ≤ m.viol ∧ m.viol ≤ _;push_cast;omega⟩
theorem Zgb {g : Int} {i : Nat} (hg : 0 ≤ g ∧ g ≤ 1099511627776) (hi : i < 64) : ZM (64 * g + i) = i ∧ Zdi (64 * g + i) = g:=by
 unfold ZM Zdi
 have h : hOk (64 * g + i):=⟨by omega,by omega⟩
 rw [if_pos h,if_pos h]
 omega
theorem IOp.step_ok {n : Nat} {s : Sto} {S : List Item} {A : Nat → Prop} {K : Nat} (h : SB n s S A K) (hK : K + 1 ≤ 20000) (ht : s.m.Thr) {o : IOp} (ho : IOk n A o) :
 ∃ S' A',SB n (o.step s).2 S' A' (K + 1) ∧ (o.step s).2.m.Thr ∧ ((o.step s).1.pc ≠ .ret → IOk n A' (o.step s).1) ∧ (∀ i,A' i ↔ (A i ∧ ¬ o.hnd i) ∨ (o.step s).1.hnd i) ∧ (o.step s).1.th = o.th ∧ (o.step s).1.t = o.t:=by
 obtain ⟨shp,th0,early,tm,full,won,hand⟩:=ho
 obtain ⟨th,t,pc,hd,hh,e,ok,ef,bl⟩:=o
 dsimp only at shp th0 early tm full won hand
 have nohand : ok = false → ∀ (A : Nat → Prop) (o' : IOp),o'.ok = false → ∀ i,A i ↔ (A i ∧ ¬ IOp.hnd ⟨th,t,pc,hd,hh,e,ok,ef,bl⟩ i) ∨ o'.hnd i:=fun e1 A o' e2 i=>by
  constructor
  · exact fun x=>.inl ⟨x,fun y=>by have:=y.1;dsimp only at this;rw [e1] at this;cases this⟩
  · rintro (x | x)
    · exact x.1
    · have:=x.1;rw [e2] at this;cases this
 have ld : SB n { s with m:=s.m.load th 0 } S A (K + 1) ∧ (s.m.load th 0).Thr:=by
  refine ⟨h.mem (ZV _ _ _ _ _ (by rw [h.nw];omega)) rfl (by simp [Mem.load,Mem.put]) (by show s.m.viol ≤ s.m.viol ∧ _;exact ⟨Int.le_refl _,by show s.m.viol ≤ _;omega⟩) hK,Yd ht rfl⟩
 have lk : ∀ i,SB n { s with m:=(s.m.lock th i).1 } S A (K + 1) ∧ (s.m.lock th i).1.Thr:=fun i=>by
  obtain ⟨a1,a2,a3,a4⟩:=s.m.lock_same th i
  exact ⟨h.mem a1 a2 (by omega) (by omega) hK,ZiN ht th0 i⟩
 have ul : ∀ (s1 : Sto) (S1 : List Item) (A1 : Nat → Prop),SB n s1 S1 A1 K → s1.m.Thr → ∀ i,SB n { s1 with m:=(s1.m.unlock th i).1 } S1 A1 (K + 1) ∧ (s1.m.unlock th i).1.Thr:=fun s1 S1 A1 hb hth i=>by
  obtain ⟨a1,a2,a3,a4,a5⟩:=s1.m.unlock_same th i
  exact ⟨hb.mem a1 a2 (by omega) (by omega) hK,ZcN hth th i⟩
 have tch : ∀ l : List Nat,l.length ≤ 3 → SB n (s.touch th l) S A (K + 1) ∧ (s.touch th l).m.Thr:=fun l hl=>by
  obtain ⟨a1,a2,a3,a4,a5⟩:=Zg th l s.m
  exact ⟨h.mem a1 (by rw [a2]) (by rw [a3];omega) (by omega) hK,Zaz l ht⟩
 have lock : ∀ (i : Nat) (p q : PC),pc = p → ok = false → p.late = false → q.late = false → p ≠ .start → (Shp q (if i = 3 then hd else Zbw hd i)) → q ≠ .start → Shp p hd →
  ∃ S' A',SB n (IOp.lock ⟨th,t,pc,hd,hh,e,ok,ef,bl⟩ s i q).2 S' A' (K + 1) ∧ (IOp.lock ⟨th,t,pc,hd,hh,e,ok,ef,bl⟩ s i q).2.m.Thr ∧ ((IOp.lock ⟨th,t,pc,hd,hh,e,ok,ef,bl⟩ s i q).1.pc ≠ .ret → IOk n A' (IOp.lock ⟨th,t,pc,hd,hh,e,ok,ef,bl⟩ s i q).1) ∧
   (∀ j,A' j ↔ (A j ∧ ¬ IOp.hnd ⟨th,t,pc,hd,hh,e,ok,ef,bl⟩ j) ∨ (IOp.lock ⟨th,t,pc,hd,hh,e,ok,ef,bl⟩ s i q).1.hnd j) ∧ (IOp.lock ⟨th,t,pc,hd,hh,e,ok,ef,bl⟩ s i q).1.th = th ∧ (IOp.lock ⟨th,t,pc,hd,hh,e,ok,ef,bl⟩ s i q).1.t = t:=by
  rintro i p q rfl e1 e2 e3 e4 e5 e6 e7
  obtain ⟨l1,l2⟩:=lk i
  have e8:=early e2
  unfold IOp.lock
  dsimp only
  by_cases hl : (s.m.lock th i).2 = true
  · rw [if_pos hl]
    exact ⟨S,A,l1,l2,fun _=>⟨e5,th0,fun _=>e8,fun _=>tm e4,fun _ x=>(by rw [e3] at x;cases x),fun x=>(by dsimp only at x;rw [e1] at x;cases x),fun x=>(by dsimp only at x;rw [e1] at x;cases x)⟩,nohand e1 A _ e1,rfl,rfl⟩
  · rw [if_neg hl]
    exact ⟨S,A,l1,l2,fun _=>⟨e7,th0,fun _=>e8,fun _=>tm e4,fun _ x=>(by rw [e2] at x;cases x),fun x=>(by dsimp only at x;rw [e1] at x;cases x),fun x=>(by dsimp only at x;rw [e1] at x;cases x)⟩,nohand e1 A _ e1,rfl,rfl⟩
 have alloc : pc = .alloc → (∀ q,q = PC.leave → Shp q hd) →
  ∃ S' A',SB n (IOp.step ⟨th,t,pc,hd,hh,e,ok,ef,bl⟩ s).2 S' A' (K + 1) ∧ (IOp.step ⟨th,t,pc,hd,hh,e,ok,ef,bl⟩ s).2.m.Thr ∧ ((IOp.step ⟨th,t,pc,hd,hh,e,ok,ef,bl⟩ s).1.pc ≠ .ret → IOk n A' (IOp.step ⟨th,t,pc,hd,hh,e,ok,ef,bl⟩ s).1) ∧
   (∀ j,A' j ↔ (A j ∧ ¬ IOp.hnd ⟨th,t,pc,hd,hh,e,ok,ef,bl⟩ j) ∨ (IOp.step ⟨th,t,pc,hd,hh,e,ok,ef,bl⟩ s).1.hnd j) ∧ (IOp.step ⟨th,t,pc,hd,hh,e,ok,ef,bl⟩ s).1.th = th ∧ (IOp.step ⟨th,t,pc,hd,hh,e,ok,ef,bl⟩ s).1.t = t:=by
  rintro rfl hsh
  obtain ⟨rfl,rfl,rfl⟩:=early rfl
  obtain ⟨c1,c2⟩:=tch [3] (by simp)
  unfold IOp.step
  dsimp only
  rcases h.last with hid | ⟨l,i,hid,hi,h1,_⟩
  · rw [Zaf hid,if_neg Bool.false_ne_true]
    exact ⟨S,A,c1,c2,fun _=>⟨hsh _ rfl,th0,fun x=>(by cases x),fun _=>tm (by simp),fun _ _=>⟨rfl,rfl⟩,fun x=>(by cases x),fun x=>(by cases x)⟩,nohand rfl A _ rfl,rfl,rfl⟩
  · rw [QM hid,if_pos rfl]
    obtain ⟨a1,a2,a3,a4,a5⟩:=Zg th [3] s.m
    have hcid : (s.touch th [3]).idle = l ++ [(i : Int)]:=hid
    have hb0 : SOk n (s.touch th [3]) S A K:=h.toSOk.touch th [3]
    obtain ⟨q1,q2,q3,q4⟩:=hb0.alloc th t (tm (by simp)) hcid hi hK
    have hn:=h.n12
    have hkb:=h.kb
    have hwd:=h.wd i hi
    have hg : s.m.word (i + 1) / 4 = s.gn i:=rfl
    have hsl:=(Zgb (g:=s.gn i) (i:=i) ⟨by have:=hwd.1;unfold Sto.gn;omega,by have:=hwd.2;omega⟩ (by omega)).1
    have h2:=h.log
    have h3:=h.viol
    refine ⟨S,_,⟨q1,?_,?_⟩,?_,fun _=>⟨hsh _ rfl,th0,fun x=>(by cases x),fun _=>tm (by simp),fun x=>(by cases x),fun _=>rfl,fun _ _=>⟨i,hi,hsl,.inr rfl⟩⟩,fun j=>?_,rfl,rfl⟩
    · show ((s.m.touches th [3]).log ++ [_]).length ≤ _
      rw [List.length_append,a3,List.length_singleton];omega
    · show 0 ≤ (s.m.touches th [3]).viol ∧ (s.m.touches th [3]).viol ≤ _
      simp only [List.length_cons,List.length_nil] at a5
      push_cast;omega
    · exact Yd c2 rfl
    · dsimp only
      constructor
      · rintro (x | rfl)
        · exact .inl ⟨x,fun y=>by have:=y.1;cases this⟩
        · exact .inr ⟨rfl,.inl rfl,hsl⟩
      · rintro (x | x)
        · exact .inl x.1
        · right
          have h1 : ZM (64 * s.gn i + i) = (j : Int):=x.2.2
          omega
 have rls : (pc = .put ∨ pc = .rel) → ∀ (q : PC) (hd' : Option (List Int × Nat)) (j : Nat),(q ≠ .ret → Shp q hd') → (q = .ret ∨ q = .rel) →
  ∃ S' A',SB n { (if pc = .put then IOp.putS ⟨th,t,pc,hd,hh,e,ok,ef,bl⟩ s else s) with m:=((if pc = .put then IOp.putS ⟨th,t,pc,hd,hh,e,ok,ef,bl⟩ s else s).m.unlock th j).1 } S' A' (K + 1) ∧
   ((if pc = .put then IOp.putS ⟨th,t,pc,hd,hh,e,ok,ef,bl⟩ s else s).m.unlock th j).1.Thr ∧ (q ≠ .ret → IOk n A' ⟨th,t,q,hd',hh,e,ok,false,false⟩) ∧
   (∀ j,A' j ↔ (A j ∧ ¬ IOp.hnd ⟨th,t,pc,hd,hh,e,ok,ef,bl⟩ j) ∨ IOp.hnd ⟨th,t,q,hd',hh,e,ok,false,false⟩ j):=by
  intro hpc q hd' j hsh hq
  have hlate : pc.late = true:=by rcases hpc with rfl | rfl <;> rfl
  have hns : pc ≠ .start:=by rcases hpc with rfl | rfl <;> simp
  have hqn : ∀ j,¬ IOp.hnd ⟨th,t,q,hd',hh,e,ok,false,false⟩ j:=fun j x=>by
   rcases hq with rfl | rfl <;> (rcases x.2.1 with y | y <;> cases y)
  have hok' : ∀ A',(q ≠ .ret → IOk n A' ⟨th,t,q,hd',hh,e,ok,false,false⟩):=fun A' hne=>by
   have hqr : q = .rel:=hq.resolve_left hne
   subst hqr
   exact ⟨hsh hne,th0,fun x=>(by cases x),fun _=>tm hns,fun x _=>full x hlate,won,fun _ x=>(by rcases x with y | y <;> cases y)⟩
  by_cases hp : pc = .put
  · rw [if_pos hp]
    subst hp
    cases ok with
    | true=>
     obtain ⟨i,hi,hs,ha⟩:=hand rfl (.inr rfl)
     obtain ⟨q1,_,_⟩:=h.toSOk.put th ha hK
     have hps : IOp.putS ⟨th,t,.put,hd,hh,e,true,ef,bl⟩ s = s.put th i:=by
      unfold IOp.putS
      dsimp only
      rw [if_pos rfl,show (ZM hh).toNat = i by omega]
     rw [hps]
     obtain ⟨f1,f2,f3⟩:=h.putF ht th i
     obtain ⟨a1,a2,a3,a4,a5⟩:=Zg th (s.putL (s.slot i).time) s.m
     have hpl : (s.putL (s.slot i).time).length ≤ 2:=by unfold Sto.putL;split;simp;split <;> simp
     have h2:=h.log
     have h3:=h.viol
     obtain ⟨b1,b2,b3,b4,b5⟩:=(s.put th i).m.unlock_same th j
     have hsame:=q1.same (m:=((s.put th i).m.unlock th j).1) b1 (by rw [b2];exact q1.nm)
     refine ⟨_,_,⟨hsame,?_,?_⟩,ZcN f3 th j,hok' _,fun j=>?_⟩
     · show (((s.put th i).m.unlock th _).1).log.length ≤ _
       rw [b3]
       show (s.m.touches th _).log.length + 1 ≤ _
       rw [a3];omega
     · show 0 ≤ ((s.put th i).m.unlock th _).1.viol ∧ ((s.put th i).m.unlock th _).1.viol ≤ _
       have e1 : (s.put th i).m.viol = (s.m.touches th (s.putL (s.slot i).time)).viol:=rfl
       rw [e1] at b4 b5
       push_cast;omega
     · constructor
       · rintro ⟨x,y⟩
         exact .inl ⟨x,fun z=>y (by have:=z.2.2;dsimp only at this;omega)⟩
       · rintro (⟨x,y⟩ | x)
         · exact ⟨x,fun z=>y ⟨rfl,.inr rfl,by dsimp only;omega⟩⟩
         · exact absurd x (hqn j)
    | false=>
     have hps : IOp.putS ⟨th,t,.put,hd,hh,e,false,ef,bl⟩ s = s:=rfl
     rw [hps]
     obtain ⟨u1,u2⟩:=ul s S A h ht j
     exact ⟨S,A,u1,u2,hok' _,nohand rfl A _ rfl⟩
  · rw [if_neg hp]
    obtain rfl:=hpc.resolve_left hp
    obtain ⟨u1,u2⟩:=ul s S A h ht j
    refine ⟨S,A,u1,u2,hok' _,fun j=>⟨fun x=>.inl ⟨x,fun y=>?_⟩,fun x=>?_⟩⟩
    · rcases y.2.1 with z | z <;> cases z
    · rcases x with x | x
      · exact x.1
      · exact absurd x (hqn j)
 have leave : pc = .leave → Shp .put hd →
  ∃ S' A',SB n (IOp.step ⟨th,t,pc,hd,hh,e,ok,ef,bl⟩ s).2 S' A' (K + 1) ∧ (IOp.step ⟨th,t,pc,hd,hh,e,ok,ef,bl⟩ s).2.m.Thr ∧ ((IOp.step ⟨th,t,pc,hd,hh,e,ok,ef,bl⟩ s).1.pc ≠ .ret → IOk n A' (IOp.step ⟨th,t,pc,hd,hh,e,ok,ef,bl⟩ s).1) ∧
   (∀ j,A' j ↔ (A j ∧ ¬ IOp.hnd ⟨th,t,pc,hd,hh,e,ok,ef,bl⟩ j) ∨ (IOp.step ⟨th,t,pc,hd,hh,e,ok,ef,bl⟩ s).1.hnd j) ∧ (IOp.step ⟨th,t,pc,hd,hh,e,ok,ef,bl⟩ s).1.th = th ∧ (IOp.step ⟨th,t,pc,hd,hh,e,ok,ef,bl⟩ s).1.t = t:=by
  rintro rfl hsh
  obtain ⟨u1,u2⟩:=ul s S A h ht 3
  refine ⟨S,A,u1,u2,fun _=>⟨hsh,th0,fun x=>(by cases x),fun _=>tm (by simp),fun x _=>full x rfl,won,fun x _=>hand x (.inl rfl)⟩,fun j=>⟨fun x=>?_,fun x=>?_⟩,rfl,rfl⟩
  · by_cases hc : ok = true ∧ ZM hh = (j : Int)
    · exact .inr ⟨hc.1,.inr rfl,hc.2⟩
    · exact .inl ⟨x,fun y=>hc ⟨y.1,y.2.2⟩⟩
  · rcases x with x | x
    · exact x.1
    · obtain ⟨i,hi,hs,ha⟩:=hand x.1 (.inl rfl)
      have h2 : ZM hh = (j : Int):=x.2.2
      have : i = j:=by omega
      rw [← this];exact ha
 cases shp with
 | start=>
  obtain ⟨rfl,rfl,rfl⟩:=early rfl
  unfold IOp.step
  dsimp only
  by_cases hb : t < 0 ∨ 1152921504606846976 < t
  · rw [if_pos hb]
    exact ⟨S,A,h.mono (by omega) hK,ht,fun x=>absurd rfl x,nohand rfl A _ rfl,rfl,rfl⟩
  · rw [if_neg hb]
    refine ⟨S,A,ld.1,ld.2,fun _=>?_,nohand rfl A _ rfl,rfl,rfl⟩
    by_cases hc : s.m.word 0 ≤ t
    · rw [if_pos hc]
      exact ⟨.top,th0,fun _=>⟨rfl,rfl,rfl⟩,fun _=>by dsimp only;omega,fun _ x=>(by cases x),fun x=>(by cases x),fun x=>(by cases x)⟩
    · rw [if_neg hc]
      exact ⟨.r0,th0,fun _=>⟨rfl,rfl,rfl⟩,fun _=>by dsimp only;omega,fun _ x=>(by cases x),fun x=>(by cases x),fun x=>(by cases x)⟩
 | top=>exact lock 0 .top .conf rfl (early rfl).1 rfl rfl (by simp) .conf (by simp) .top
 | r0=>exact lock 1 .rungs .choose rfl (early rfl).1 rfl rfl (by simp) .choose (by simp) .r0
 | r1=>exact lock 1 .rungs .choose rfl (early rfl).1 rfl rfl (by simp) .choose (by simp) .r1
 | bottom=>exact lock 2 .bottom .arena rfl (early rfl).1 rfl rfl (by simp) .a2 (by simp) .bottom
 | a0=>exact lock 3 .arena .alloc rfl (early rfl).1 rfl rfl (by simp) .l0 (by simp) .a0
 | a1=>exact lock 3 .arena .alloc rfl (early rfl).1 rfl rfl (by simp) .l1 (by simp) .a1
 | a2=>exact lock 3 .arena .alloc rfl (early rfl).1 rfl rfl (by simp) .l2 (by simp) .a2
 | conf=>
  obtain ⟨rfl,rfl,rfl⟩:=early rfl
  unfold IOp.step
  dsimp only
  refine ⟨S,A,ld.1,ld.2,fun _=>?_,nohand rfl A _ rfl,rfl,rfl⟩
  by_cases hc : s.m.word 0 ≤ t
  · rw [if_pos hc]
    exact ⟨.a0,th0,fun _=>⟨rfl,rfl,rfl⟩,fun _=>tm (by simp),fun _ x=>(by cases x),fun x=>(by cases x),fun x=>(by cases x)⟩
  · rw [if_neg hc]
    exact ⟨.undo,th0,fun _=>⟨rfl,rfl,rfl⟩,fun _=>tm (by simp),fun _ x=>(by cases x),fun x=>(by cases x),fun x=>(by cases x)⟩
 | undo=>
  obtain ⟨rfl,rfl,rfl⟩:=early rfl
  obtain ⟨u1,u2⟩:=ul s S A h ht 0
  exact ⟨S,A,u1,u2,fun _=>⟨.r1,th0,fun _=>⟨rfl,rfl,rfl⟩,fun _=>tm (by simp),fun _ x=>(by cases x),fun x=>(by cases x),fun x=>(by cases x)⟩,nohand rfl A _ rfl,rfl,rfl⟩
 | choose=>
  obtain ⟨rfl,rfl,rfl⟩:=early rfl
  obtain ⟨c1,c2⟩:=tch [1] (by simp)
  unfold IOp.step
  dsimp only
  refine ⟨S,A,c1,c2,fun _=>?_,nohand rfl A _ rfl,rfl,rfl⟩
  by_cases hc : (s.accepts th t).2 = true
  · rw [if_pos hc]
    exact ⟨.a1,th0,fun _=>⟨rfl,rfl,rfl⟩,fun _=>tm (by simp),fun _ x=>(by cases x),fun x=>(by cases x),fun x=>(by cases x)⟩
  · rw [if_neg hc]
    exact ⟨.bottom,th0,fun _=>⟨rfl,rfl,rfl⟩,fun _=>tm (by simp),fun _ x=>(by cases x),fun x=>(by cases x),fun x=>(by cases x)⟩
 | l0=>exact alloc rfl fun q hq=>hq ▸ .v0
 | l1=>exact alloc rfl fun q hq=>hq ▸ .v1
 | l2=>exact alloc rfl fun q hq=>hq ▸ .v2
 | v0=>exact leave rfl .p0
 | v1=>exact leave rfl .p1
 | v2=>exact leave rfl .p2
 | p0=>
  obtain ⟨S',A',a,b,c,d⟩:=rls (.inl rfl) .ret (some ([0],0)) 0 (fun x=>absurd rfl x) (.inl rfl)
  rw [if_pos rfl] at a b
  exact ⟨S',A',a,b,c,d,rfl,rfl⟩
 | p1=>
  obtain ⟨S',A',a,b,c,d⟩:=rls (.inl rfl) .ret (some ([1],0)) 1 (fun x=>absurd rfl x) (.inl rfl)
  rw [if_pos rfl] at a b
  exact ⟨S',A',a,b,c,d,rfl,rfl⟩
 | p2=>
  obtain ⟨S',A',a,b,c,d⟩:=rls (.inl rfl) .rel (some ([1,2],1)) 2 (fun _=>.rel) (.inr rfl)
  rw [if_pos rfl] at a b
  exact ⟨S',A',a,b,c,d,rfl,rfl⟩
 | rel=>
  obtain ⟨S',A',a,b,c,d⟩:=rls (.inr rfl) .ret (some ([1,2],0)) 1 (fun x=>absurd rfl x) (.inl rfl)
  rw [if_neg (by simp)] at a b
  exact ⟨S',A',a,b,c,d,rfl,rfl⟩
theorem IOk.mono {n : Nat} {A B : Nat → Prop} {o : IOp} (h : IOk n A o) (hAB : ∀ i,o.hnd i → A i → B i) : IOk n B o:=
 ⟨h.shp,h.th0,h.early,h.tm,h.full,h.won,fun a b=>by
  obtain ⟨i,h1,h2,h3⟩:=h.hand a b
  exact ⟨i,h1,h2,hAB i ⟨a,b,h2⟩ h3⟩⟩
theorem hnd_new {n : Nat} {s : Sto} {S : List Item} {A : Nat → Prop} {K : Nat} (h : SB n s S A K) (ht : s.m.Thr) {o : IOp} (ho : IOk n A o) {i : Nat} (h1 : (o.step s).1.hnd i) (h2 : ¬ o.hnd i) : ¬ A i:=by
 obtain ⟨shp,th0,early,tm,full,won,hand⟩:=ho
 obtain ⟨th,t,pc,hd,hh,e,ok,ef,bl⟩:=o
 dsimp only at shp th0 early tm full won hand
 have nl : ∀ (p : PC) (k : Nat) (q : PC),pc = p → p.late = false → ¬ (IOp.lock ⟨th,t,pc,hd,hh,e,ok,ef,bl⟩ s k q).1.hnd i:=by
  rintro p k q rfl hl x
  have hok:=(early hl).1
  have:=x.1
  unfold IOp.lock at this
  split at this <;> (dsimp only at this;rw [hok] at this;cases this)
 cases hpc : pc with
 | ret=>subst hpc;exact absurd h1 h2
 | start=>
  subst hpc
  have hok:=(early rfl).1
  have:=h1.1
  unfold IOp.step at this
  dsimp only at this
  split at this <;> (dsimp only at this;rw [hok] at this;cases this)
 | top=>subst hpc;exact absurd h1 (nl .top 0 .conf rfl rfl)
 | rungs=>subst hpc;exact absurd h1 (nl .rungs 1 .choose rfl rfl)
 | bottom=>subst hpc;exact absurd h1 (nl .bottom 2 .arena rfl rfl)
 | arena=>subst hpc;exact absurd h1 (nl .arena 3 .alloc rfl rfl)
 | conf=>subst hpc;have:=h1.1;have hok:=(early rfl).1;rw [show (IOp.step ⟨th,t,.conf,hd,hh,e,ok,ef,bl⟩ s).1.ok = ok from rfl,hok] at this;cases this
 | undo=>subst hpc;have:=h1.1;have hok:=(early rfl).1;rw [show (IOp.step ⟨th,t,.undo,hd,hh,e,ok,ef,bl⟩ s).1.ok = ok from rfl,hok] at this;cases this
 | choose=>subst hpc;have:=h1.1;have hok:=(early rfl).1;rw [show (IOp.step ⟨th,t,.choose,hd,hh,e,ok,ef,bl⟩ s).1.ok = ok from rfl,hok] at this;cases this
 | alloc=>
  subst hpc
  have hok:=(early rfl).1
  rcases h.last with hid | ⟨l,x,hid,hx,h3,_⟩
  · have:=h1.1
    unfold IOp.step at this
    dsimp only at this
    rw [Zaf hid,if_neg Bool.false_ne_true] at this
    dsimp only at this
    rw [hok] at this;cases this
  · have h5:=h1.2.2
    unfold IOp.step at h5
    dsimp only at h5
    rw [QM hid,if_pos rfl] at h5
    have hn:=h.n12
    have hkb:=h.kb
    have hwd:=h.wd x hx
    have hsl:=(Zgb (g:=s.gn x) (i:=x) ⟨by have:=hwd.1;unfold Sto.gn;omega,by have:=hwd.2;omega⟩ (by omega)).1
    have h6 : ZM (64 * s.gn x + x) = (i : Int):=h5
    have e : x = i:=by omega
    subst e
    intro ha
    exact (h.hand x ha).2 h3
 | leave=>subst hpc;exact absurd ⟨h1.1,.inl rfl,h1.2.2⟩ h2
 | put=>subst hpc;exact absurd ⟨h1.1,.inr rfl,h1.2.2⟩ h2
 | rel=>
  subst hpc
  rcases h1.2.1 with x | x <;>
  · have x : (if (hdL hd).length ≤ 1 then PC.ret else PC.rel) = _:=x
    split at x <;> cases x
theorem ZoG (pc : PC) {ν μ : Nat → Nat} (h : ∀ x,x < 12 → ν x = μ x) : nxV pc ν = nxV pc μ:=by
 cases pc <;> simp [nxV,fnO,fnT,pO,pB,h 0 (by omega),h 2 (by omega),h 3 (by omega),h 4 (by omega),h 5 (by omega)]
theorem ZfF (o : IOp) (st : Nat) (ν μ : Nat → Nat) (i : Nat) (h : ∀ x,x < 12 → ν x = μ x) : o.blkB st ν i = o.blkB st μ i:=by
 obtain ⟨th,t,pc,hd,hh,e,ok,ef,bl⟩:=o
 have g0:=h 0 (by omega);have g1:=h 1 (by omega);have g2:=h 2 (by omega);have g3:=h 3 (by omega);have g4:=h 4 (by omega);have g5:=h 5 (by omega)
 have g6:=h 6 (by omega);have g7:=h 7 (by omega);have g8:=h 8 (by omega);have g9:=h 9 (by omega);have g10:=h 10 (by omega);have g11:=h 11 (by omega)
 unfold IOp.blkB
 dsimp only
 split
 · unfold opR
   dsimp only
   rw [ZoG pc h]
   cases ok <;> simp [ptV,pB,g1,g10,g11]
 · rfl
 all_goals first
  | rfl
  | (cases pc <;> simp [ZpO,ZsS,Zr1,Zsf,ZnC,pO,pB,fnT,fnO,g0,g2,g3,g4,g5,g6,g7,g8,g9])
  | (cases ok <;> simp [ZtB,pO,g0])
theorem ZqE {α : Type} (f : Nat → α) (t : Nat) (v w : α) : upd (upd f t v) t w = upd f t w:=by
 funext j
 by_cases e : j = t
 · subst e;rw [Zb,Zb]
 · rw [Zi _ _ _ _ e,Zi _ _ _ _ e,Zi _ _ _ _ e]
def ZuG (o : IOp) (st : Nat) (ν : Nat → Nat) : List (Nat × B):=[(ν 0,o.blkB st ν 0),(ν 1,o.blkB st ν 1),(ν 2,o.blkB st ν 2),(ν 3,o.blkB st ν 3),(ν 4,o.blkB st ν 4),(ν 5,o.blkB st ν 5),(ν 6,o.blkB st ν 6),(ν 7,o.blkB st ν 7),(ν 8,o.blkB st ν 8),(ν 9,o.blkB st ν 9),(ν 10,o.blkB st ν 10),(ν 11,o.blkB st ν 11)]
def Zph (s : Sto) (a b l c d : Nat) : List (Nat × B):=[(a,.rows 10 [ZrI s b]),(b,ZrF s.m l c d),(l,ZoF s.m),(c,Zc1 s.m),(d,Zs2 s.m)]
theorem ZsO (o : IOp) (s : Sto) {σ ν : Nat → Nat} {st b l c d : Nat} (hν : ∀ x,x < 12 → σ x = ν x) (h1 : σ 12 = st) (h2 : σ 13 = b) (h3 : σ 14 = l) (h4 : σ 15 = c) (h5 : σ 16 = d) :
 (iB0 o s).map (fun p=>(σ p.1,ZC σ p.2)) = ZuG o st ν ++ Zph s st b l c d:=by
 subst h1 h2 h3 h4 h5
 have hb : ∀ x,x < 12 → ((σ x,ZC σ (o.blkB 12 (fun i=>i) x)) : Nat × B) = (ν x,o.blkB (σ 12) ν x):=fun x hx=>by
  rw [hν x hx,ZhN,ZfF o (σ 12) (fun i=>σ i) ν x hν]
 show [((σ 0,ZC σ (o.blkB 12 (fun i=>i) 0)) : Nat × B),(σ 1,ZC σ (o.blkB 12 (fun i=>i) 1)),(σ 2,ZC σ (o.blkB 12 (fun i=>i) 2)),(σ 3,ZC σ (o.blkB 12 (fun i=>i) 3)),(σ 4,ZC σ (o.blkB 12 (fun i=>i) 4)),(σ 5,ZC σ (o.blkB 12 (fun i=>i) 5)),
  (σ 6,ZC σ (o.blkB 12 (fun i=>i) 6)),(σ 7,ZC σ (o.blkB 12 (fun i=>i) 7)),(σ 8,ZC σ (o.blkB 12 (fun i=>i) 8)),(σ 9,ZC σ (o.blkB 12 (fun i=>i) 9)),(σ 10,ZC σ (o.blkB 12 (fun i=>i) 10)),(σ 11,ZC σ (o.blkB 12 (fun i=>i) 11))] ++ _ = _
 rw [hb 0 (by omega),hb 1 (by omega),hb 2 (by omega),hb 3 (by omega),hb 4 (by omega),hb 5 (by omega),hb 6 (by omega),hb 7 (by omega),hb 8 (by omega),hb 9 (by omega),hb 10 (by omega),hb 11 (by omega)]
 rfl
theorem ZsQ (o : IOp) (s : Sto) {σ ν : Nat → Nat} {st b l c d : Nat} (h0 : σ 0 = ν 0) (hν : ∀ x,x < 11 → σ (18 + x) = ν (x + 1)) (h1 : σ 12 = st) (h2 : σ 13 = b) (h3 : σ 17 = l) (h4 : σ 15 = c) (h5 : σ 16 = d) :
 (iB1 o s).map (fun p=>(σ p.1,ZC σ p.2)) = ZuG o st ν ++ Zph s st b l c d:=by
 subst h1 h2 h3 h4 h5
 have hμ : ∀ x,x < 12 → σ (nu1 x) = ν x:=fun x hx=>by
  cases x with
  | zero=>exact h0
  | succ x=>exact hν x (by omega)
 have hb : ∀ x,x < 12 → ((σ (nu1 x),ZC σ (o.blkB 12 nu1 x)) : Nat × B) = (ν x,o.blkB (σ 12) ν x):=fun x hx=>by
  rw [hμ x hx,ZhN,ZfF o (σ 12) (fun i=>σ (nu1 i)) ν x hμ]
 show [((σ (nu1 0),ZC σ (o.blkB 12 nu1 0)) : Nat × B),(σ (nu1 1),ZC σ (o.blkB 12 nu1 1)),(σ (nu1 2),ZC σ (o.blkB 12 nu1 2)),(σ (nu1 3),ZC σ (o.blkB 12 nu1 3)),(σ (nu1 4),ZC σ (o.blkB 12 nu1 4)),(σ (nu1 5),ZC σ (o.blkB 12 nu1 5)),
  (σ (nu1 6),ZC σ (o.blkB 12 nu1 6)),(σ (nu1 7),ZC σ (o.blkB 12 nu1 7)),(σ (nu1 8),ZC σ (o.blkB 12 nu1 8)),(σ (nu1 9),ZC σ (o.blkB 12 nu1 9)),(σ (nu1 10),ZC σ (o.blkB 12 nu1 10)),(σ (nu1 11),ZC σ (o.blkB 12 nu1 11))] ++ _ = _
 rw [hb 0 (by omega),hb 1 (by omega),hb 2 (by omega),hb 3 (by omega),hb 4 (by omega),hb 5 (by omega),hb 6 (by omega),hb 7 (by omega),hb 8 (by omega),hb 9 (by omega),hb 10 (by omega),hb 11 (by omega)]
 rfl
end Go.Proofs.YtdjnjchpgccbiaaGreat.Abs
