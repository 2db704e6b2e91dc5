/- Insertions: the reference's methods. -/
import Derived.Test.YtcffiehcdadimaaGreatMA
import Derived.Test.YtcffiehcdadimaaGreatC21
namespace Go.Proofs.YtcffiehcdadimaaGreat.Abs
open Go.Proofs
set_option maxRecDepth 10000
set_option linter.unusedSimpArgs false
set_option linter.unusedVariables false
structure Cl where
 k : Int
 t : Int
 h : Int
 m : Int
 b : Int
def Cl.v (c : Cl) : V:=.agg [V.int c.k,V.int c.t,V.int c.h,V.int c.m,V.int c.b]
set_option maxHeartbeats 4000000
theorem SB.putF {n : Nat} {s : Sto} {S : List Item} {A : Nat → Prop} {K : Nat} (h : SB n s S A K) (ht : s.m.Thr) (th : Int) (i : Nat) : (s.put th i).Fits ∧ 4 ≤ (s.put th i).m.mtx.length ∧ (s.put th i).m.Thr:=by
 have hf:=h.fits
 have tt:=touches_same th (s.putL (s.slot i).time) s.m
 have hpl : (s.putL (s.slot i).time).length ≤ 2:=by unfold Sto.putL;split;simp;split <;> simp
 have hv:=h.viol
 have hkb:=h.kb
 refine ⟨⟨⟨?_,?_,?_,?_⟩,hf.slots,hf.idle,hf.next⟩,?_,?_⟩
 · show (s.m.touches th _).log.length < _;rw [tt.2.2.1];exact hf.mem.log
 · show 0 ≤ (s.m.touches th _).viol ∧ (s.m.touches th _).viol < _;omega
 · show (s.m.touches th _).words.length < _;rw [tt.1];exact hf.mem.words
 · show (s.m.touches th _).mtx.length < _;rw [tt.2.1];exact hf.mem.mtx
 · show 4 ≤ (s.m.touches th _).mtx.length;rw [tt.2.1,h.nm];exact Nat.le_refl _
 · intro j hj
   have e : (s.put th i).m.held j = s.m.held j:=by
    show ((s.m.touches th _).mtx[j]?).getD _ = _
    rw [tt.2.1];rfl
   rw [e] at hj ⊢
   exact ht j hj
theorem iNewC (s : Sto) (th : Int) (c : Cl) : LSpec Tryz.prog 46 [.p 0 10 0 0,V.int th,c.v] (stoB s 2) 5 (.p 5 16 0 0) (stoB s 2 ++ [(5,opR (.new th c.t) 0 fun i=>5 + i)]) 17:=by
 refine lspec tab_ok mix Tryz.func46 (by kernel_rfl) (by rfl) (by rfl) (by rfl) (by rfl) ?_
 (refine go ?_; try exact True.intro)
 refine .mk [(5,512)] (go ?_);try exact True.intro
theorem nxV_names (pc : PC) (ν : Nat → Nat) : ∀ n ∈ nameOf (nxV pc ν),∃ j,j < 12 ∧ n = ν j:=by
 intro n hn
 cases pc <;> simp [nxV,nameOf,namesOf,fnO,fnT,pO,pB] at hn
 all_goals first
  | exact ⟨0,by omega,hn⟩
  | exact ⟨2,by omega,hn⟩
  | (rcases hn with h | h | h | h
     · exact ⟨2,by omega,h⟩
     · exact ⟨3,by omega,h⟩
     · exact ⟨4,by omega,h⟩
     · exact ⟨5,by omega,h⟩)
theorem nxV_ren (pc : PC) (ν σ : Nat → Nat) : renV σ (nxV pc ν) = nxV pc (fun i=>σ (ν i)):=by
 cases pc <;> rfl
theorem hdV_ren (hd : Option (List Int × Nat)) (n : Nat) (σ : Nat → Nat) : renV σ (hdV hd n) = hdV hd (σ n):=by
 rcases hd with _ | ⟨l,k⟩ <;> rfl
theorem ptV_ren (ok : Bool) (ν σ : Nat → Nat) : renV σ (ptV ok ν) = ptV ok (fun i=>σ (ν i)):=by
 cases ok <;> rfl
theorem blk_ren (o : IOp) (st : Nat) (ν σ : Nat → Nat) (i : Nat) : renB σ (o.blkB st ν i) = o.blkB (σ st) (fun i=>σ (ν i)) i:=by
 obtain ⟨th,t,pc,hd,h,e,ok,ef,bl⟩:=o
 unfold IOp.blkB
 dsimp only
 split
 · unfold opR
   simp only [renB,List.map_cons,List.map_nil,renVs,nxV_ren,hdV_ren,ptV_ren]
   rfl
 · rcases hd with _ | ⟨l,k⟩ <;> rfl
 · cases pc <;> rfl
 · cases pc <;> rfl
 · cases pc <;> rfl
 · cases pc <;> rfl
 · cases pc <;> rfl
 · cases pc <;> rfl
 · cases pc <;> rfl
 · cases pc <;> rfl
 · cases ok <;> rfl
 · cases ok <;> rfl
 · rfl
theorem blk_names (o : IOp) (st : Nat) (ν : Nat → Nat) (i : Nat) : ∀ n ∈ namesB (o.blkB st ν i),(∃ j,j < 12 ∧ n = ν j) ∨ n = st:=by
 obtain ⟨th,t,pc,hd,h,e,ok,ef,bl⟩:=o
 have one : ∀ {x : V} {n : Nat},n ∈ namesB (cl1 x) → n ∈ nameOf x:=fun {x n} h=>by
  simpa [cl1,namesB,namesOf] using h
 have hO : ∀ n,n ∈ nameOf (pO ν) → (∃ j,j < 12 ∧ n = ν j) ∨ n = st:=fun n h=>.inl ⟨0,by omega,by simpa [pO,nameOf] using h⟩
 have hF : ∀ f n,n ∈ nameOf (fnO f ν) → (∃ j,j < 12 ∧ n = ν j) ∨ n = st:=fun f n h=>.inl ⟨0,by omega,by simpa [fnO,pO,nameOf,namesOf] using h⟩
 have hT : ∀ a,a + 3 < 12 → ∀ n,n ∈ nameOf (fnT ν a) → (∃ j,j < 12 ∧ n = ν j) ∨ n = st:=fun a ha n h=>by
  simp [fnT,pB,nameOf,namesOf] at h
  left
  rcases h with h | h | h | h
  · exact ⟨a,by omega,h⟩
  · exact ⟨a + 1,by omega,h⟩
  · exact ⟨a + 2,by omega,h⟩
  · exact ⟨a + 3,by omega,h⟩
 have hI : ∀ x n,n ∉ nameOf (V.int x):=fun x n h=>by simp [V.int,nameOf] at h
 have hN : ∀ n,n ∉ namesB noB:=fun n h=>by simp [noB,namesB] at h
 intro n hn
 unfold IOp.blkB at hn
 dsimp only at hn
 split at hn
 · unfold opR at hn
   simp only [namesB,List.flatMap_cons,List.flatMap_nil,List.append_nil,namesOf,List.mem_append] at hn
   rcases hn with h | h | h | h | h | h | h | h | h | h | h | h | h | h | h | h | h
   · right;simpa [nameOf] using h
   · exact absurd h (hI _ _)
   · exact absurd h (hI _ _)
   · exact .inl (nxV_names pc ν n h)
   · rcases hd with _ | ⟨l,k⟩
     · simp [hdV,nameOf] at h
     · exact .inl ⟨1,by omega,by simpa [hdV,nameOf] using h⟩
   · cases ok
     · simp [ptV,nameOf,namesOf] at h
     · simp [ptV,pB,nameOf,namesOf] at h
       rcases h with h | h
       · exact .inl ⟨10,by omega,h⟩
       · exact .inl ⟨11,by omega,h⟩
   all_goals (first | exact absurd h (hI _ _) | simp [V.bool,nilS,nameOf,namesOf] at h)
 · rcases hd with _ | ⟨l,k⟩ <;> simp [hdD,namesB] at hn
 all_goals
  first
   | (cases pc <;> (dsimp only [boxO,boxM,boxT,boxN,boxX] at hn;first | exact absurd hn (hN _) | exact hO _ (one hn) | exact hF _ _ (one hn) | exact hT _ (by omega) _ (one hn) | exact absurd (one hn) (hI _ _)))
   | (cases ok <;> (dsimp only [boxP] at hn;first | exact absurd hn (hN _) | exact hO _ (one hn) | exact absurd (one hn) (hI _ _)))
   | exact absurd hn (hN _)
theorem belowL_of {L : List (Nat × B)} {b : Nat} (h : (L.all fun p=>Nat.blt p.1 b && (namesB p.2).all fun n=>Nat.blt n b) = true) : ∀ p ∈ L,p.1 < b ∧ p.2.Below (Lt b):=by
 intro p hp
 have h1:=List.all_eq_true.1 h p hp
 rw [Bool.and_eq_true,Nat.blt_eq] at h1
 exact ⟨h1.1,belowB_names fun n hn=>by have:=List.all_eq_true.1 h1.2 n hn;rwa [Nat.blt_eq] at this⟩
theorem iB0_below (o : IOp) (s : Sto) : ∀ p ∈ iB0 o s,p.1 < 17 ∧ p.2.Below (Lt 17):=by
 intro p hp
 rcases List.mem_append.1 hp with hp | hp
 · obtain ⟨i,hi,rfl⟩:=List.mem_map.1 hp
   have:=List.mem_range.1 hi
   refine ⟨by dsimp only;omega,belowB_names fun n hn=>?_⟩
   rcases blk_names o 12 (fun i=>i) i n hn with ⟨j,hj,rfl⟩ | rfl <;> omega
 · exact belowL_of (L:=stoAt s 12 14) rfl p hp
theorem iEffectC (o : IOp) (s : Sto) : LSpec Tryz.prog 49 [.p 0 16 0 0] (iB0 o s) 17 (V.bool o.eff) (iB0 o s) 17:=by
 refine lspecO ((iB0 o s).map fun p : Nat × B=>p.1) tab_ok mix Tryz.func49 (by kernel_rfl) (by rfl) (iB0_below o s) (by rfl) (by rfl) (go ?_)
 exact retR (iB0_below o s) rfl (fun K k=>go k) (go True.intro)
theorem iBlockedC (o : IOp) (s : Sto) : LSpec Tryz.prog 48 [.p 0 16 0 0] (iB0 o s) 17 (V.bool o.blk) (iB0 o s) 17:=by
 refine lspecO ((iB0 o s).map fun p : Nat × B=>p.1) tab_ok mix Tryz.func48 (by kernel_rfl) (by rfl) (iB0_below o s) (by rfl) (by rfl) (go ?_)
 exact retR (iB0_below o s) rfl (fun K k=>go k) (go True.intro)
def IOp.re (o : IOp) : Int:=match o.pc with | .ret=>o.e | _=>0
def IOp.rh (o : IOp) : Int:=match o.pc with | .ret=>o.h | _=>0
def iRes (e h : Int) : V:=.agg [V.int e,V.int h,V.bool false,nilS]
theorem iResultC (o : IOp) (s : Sto) : LSpec Tryz.prog 50 [.p 0 16 0 0] (iB0 o s) 17 (iRes o.re o.rh) (iB0 o s) 17:=by
 refine lspecO ((iB0 o s).map fun p : Nat × B=>p.1) tab_ok mix Tryz.func50 (by kernel_rfl) (by rfl) (iB0_below o s) (by rfl) (by rfl) (go ?_)
 exact retR (iB0_below o s) rfl (fun K k=>go k) (go True.intro)
end Go.Proofs.YtcffiehcdadimaaGreat.Abs
