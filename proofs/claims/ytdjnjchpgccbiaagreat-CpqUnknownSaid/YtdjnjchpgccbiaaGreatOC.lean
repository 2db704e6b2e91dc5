/- Calls of all kinds: when they take effect, and how many steps they have before them when they run alone. -/
import Derived.Test.YtdjnjchpgccbiaaGreatOB
namespace Go.Proofs.YtdjnjchpgccbiaaGreat.Abs
set_option linter.unusedSimpArgs false
set_option linter.unusedVariables false
def Kop.late : Kop → Bool
 | .ins o=>o.pc.late
 | .can o=>decide (o.ph = 2)
 | .bat o=>o.scn || decide (o.e = 1)
 | .unk _ z=>z
def Kop.res : Kop → Res
 | .ins o=>⟨match o.pc with | .ret=>o.e | _=>0,match o.pc with | .ret=>o.h | _=>0,false,[]⟩
 | .can o=>⟨0,0,o.done,[]⟩
 | .bat o=>⟨o.e,0,false,if o.rv = true then Zdh o.ev else []⟩
 | .unk _ z=>if z = true then .er 1 else .er 0
structure LateK (o o' : Kop) : Prop where
 eff : o'.eff = (!o.late && o'.late)
 keep : o.late = true → o'.late = true ∧ o'.fin = o.fin
 dn : o'.done = true → o'.late = true
 res : o'.done = true → o'.res = o'.fin
theorem Kop.late_step {n K : Nat} {s : Sto} {S : List Item} {A : Nat → Prop} (h : SB n s S A K) (hK : K + 1 ≤ 20000) {o : Kop} (ho : KopOk n K s S A o) {S' : List Item} {A' : Nat → Prop} (hs : StepK n K s (o.step s).2 S S' A A' o (o.step s).1) : LateK o (o.step s).1:=by
 cases o with
 | ins o=>
  have e:=Zpn (s:=s) (show IOk n A o from ho)
  have hd : (o.step s).1.done = true → (o.step s).1.pc = .ret:=fun y=>by
   unfold IOp.done at y
   split at y
   · assumption
   · cases y
  refine ⟨e.eff,fun y=>?_,fun y=>?_,fun y=>?_⟩
  · obtain ⟨e1,e2,e3⟩:=e.keep y
    refine ⟨e3,?_⟩
    show (⟨(o.step s).1.e,(o.step s).1.h,false,[]⟩ : Res) = ⟨o.e,o.h,false,[]⟩
    rw [e1,e2]
  · show (o.step s).1.pc.late = true
    rw [hd y];rfl
  · show (⟨match (o.step s).1.pc with | .ret=>(o.step s).1.e | _=>0,match (o.step s).1.pc with | .ret=>(o.step s).1.h | _=>0,false,[]⟩ : Res) = ⟨(o.step s).1.e,(o.step s).1.h,false,[]⟩
    rw [hd y]
 | can o=>
  have hp:=(show KCan K o from ho).ph
  have hl : (Kop.can o).late = false:=by
   show decide (o.ph = 2) = false
   rw [decide_eq_false];rcases hp with y | y <;> omega
  exact ⟨by rw [hl];rfl,fun y=>(by rw [hl] at y;cases y),fun y=>y,fun _=>rfl⟩
 | unk th z=>
  obtain ⟨_,rfl⟩ : 0 ≤ th ∧ z = false:=ho
  exact ⟨rfl,fun y=>(by cases y),fun _=>rfl,fun _=>rfl⟩
 | bat o=>
  have hok : KBat n s S A o:=ho
  have hbs:=BOp.cases h hK hok hs.sb.toSOk
  obtain ⟨r1,r2⟩:=hok.ok.res
  have early : ∀ p : BOp,(o.step s).1 = p → o.scn = false → p.scn = false → p.e = o.e → p.rv = o.rv → p.eff = false → LateK (.bat o) (.bat (o.step s).1):=fun p e e1 e2 e3 e4 e5=>by
   rw [e]
   have hl : (Kop.bat o).late = false:=by show (o.scn || decide (o.e = 1)) = false;rw [e1,r2];rfl
   have hl' : (Kop.bat p).late = false:=by show (p.scn || decide (p.e = 1)) = false;rw [e2,e3,r2];rfl
   have hd : (Kop.bat p).done = false:=Zav hok.ok e4 e3
   exact ⟨by rw [hl,hl'];exact e5,fun y=>(by rw [hl] at y;cases y),fun y=>(by rw [hd] at y;cases y),fun y=>(by rw [hd] at y;cases y)⟩
  show LateK (.bat o) (.bat (o.step s).1)
  generalize (o.step s).1 = o' at *
  generalize (o.step s).2 = s' at *
  cases hbs with
  | bad hb e es eS=>
   have hl : (Kop.bat o).late = false:=by show (o.scn || decide (o.e = 1)) = false;rw [(hok.bd hb).2.1,r2];rfl
   subst e
   exact ⟨by rw [hl];show true = (!false && (o.scn || decide ((1 : Int) = 1)));simp,fun y=>(by rw [hl] at y;cases y),fun _=>(by show (o.scn || decide ((1 : Int) = 1)) = true;simp),fun _=>(by
    show (⟨1,0,false,if o.rv = true then Zdh o.ev else []⟩ : Res) = if (1 : Int) = 1 then Res.er 1 else ⟨0,0,false,Zdh o.ev⟩
    rw [r1,if_pos rfl];rfl)⟩
  | no hb h1 h2 hl e es ks eS=>exact early _ e h1 h1 rfl rfl rfl
  | lock hb h1 h2 hl e ks eS=>exact early _ e h1 h1 rfl rfl rfl
  | take hb h1 h2 h3 hS hi hx hA hl hw e k1 k2 k3 k4 k5=>exact early _ e h1 h1 rfl rfl rfl
  | miss hb h1 h2 h3 hS hi hx hw e ks eS=>exact early _ e h1 h1 rfl rfl rfl
  | drop hb h1 h2 h3 hS hi hx hA hcn hst e ks=>exact early _ e h1 h1 rfl rfl rfl
  | claim hb h1 h2 h3 hS hi hx hA hcn hst e ks kw eS=>exact early _ e h1 h1 rfl rfl rfl
  | fin hb h1 h2 h3 hcn e ks eS=>
   have hl : (Kop.bat o).late = false:=by show (o.scn || decide (o.e = 1)) = false;rw [h1,r2];rfl
   subst e
   have hd : (Kop.bat { o with scn:=true,eff:=true,blk:=false }).done = false:=Zav hok.ok rfl rfl
   exact ⟨by rw [hl];rfl,fun y=>(by rw [hl] at y;cases y),fun y=>(by rw [hd] at y;cases y),fun y=>(by rw [hd] at y;cases y)⟩
  | free hb h1 h2 hi hg e k1 k2 k3 k4 k5 eS=>
   have hl : (Kop.bat o).late = true:=by show (o.scn || decide (o.e = 1)) = true;rw [h1];rfl
   subst e
   have hd : (Kop.bat { o with nf:=o.nf + 1,eff:=false,blk:=false }).done = false:=Zav hok.ok rfl rfl
   exact ⟨by rw [hl];rfl,fun _=>⟨hl,rfl⟩,fun y=>(by rw [hd] at y;cases y),fun y=>(by rw [hd] at y;cases y)⟩
  | unl hb h1 h2 e ks eS=>
   have hl : (Kop.bat o).late = true:=by show (o.scn || decide (o.e = 1)) = true;rw [h1];rfl
   subst e
   refine ⟨by rw [hl];rfl,fun _=>⟨hl,rfl⟩,fun _=>hl,fun y=>?_⟩
   have y : (decide (o.held = 1) || decide (o.e = 1)) = true:=y
   rw [r2] at y
   show (⟨o.e,0,false,if decide (o.held = 1) = true then Zdh o.ev else []⟩ : Res) = if o.e = 1 then Res.er 1 else ⟨0,0,false,Zdh o.ev⟩
   rw [r2,if_neg (show ¬ (0 : Int) = 1 by decide),if_pos (show decide (o.held = 1) = true by simpa using y)]
def IOp.rem (o : IOp) (T : Int) : Nat:=
 match o.pc with
 | .ret=>0 | .start=>9 | .top=>if T ≤ o.t then 7 else 11 | .conf=>if T ≤ o.t then 6 else 10 | .undo=>9 | .rungs=>8 | .choose=>7 | .bottom=>6 | .arena=>5 | .alloc=>4 | .leave=>3 | .put=>2 | .rel=>1
theorem IOp.rem_step {n : Nat} {s : Sto} {A : Nat → Prop} {o : IOp} (ho : IOk n A o) (hw : s.m.word 0 = s.q.topStart) (hl : ∀ i q,o.pc.mx = some (i,q) → (s.m.held i).1 = false) :
 (o.step s).1.blk = false ∧ (o.step s).1.rem (o.step s).2.q.topStart < o.rem s.q.topStart:=by
 obtain ⟨shp,th0,early,tm,full,won,hand⟩:=ho
 obtain ⟨th,x,pc,hd,hh,e,ok,ef,bl⟩:=o
 dsimp only at shp hl early
 generalize hT : s.q.topStart = T at *
 have lock : ∀ (i : Nat) (p q : PC),pc = p → p.mx = some (i,q) → (IOp.rem ⟨th,x,q,hd,hh,e,ok,ef,bl⟩ T < IOp.rem ⟨th,x,p,hd,hh,e,ok,ef,bl⟩ T) → (∀ hd',IOp.rem ⟨th,x,q,hd',hh,e,ok,false,false⟩ T = IOp.rem ⟨th,x,q,hd,hh,e,ok,ef,bl⟩ T) →
  (IOp.lock ⟨th,x,pc,hd,hh,e,ok,ef,bl⟩ s i q).1.blk = false ∧ (IOp.lock ⟨th,x,pc,hd,hh,e,ok,ef,bl⟩ s i q).1.rem (IOp.lock ⟨th,x,pc,hd,hh,e,ok,ef,bl⟩ s i q).2.q.topStart < IOp.rem ⟨th,x,pc,hd,hh,e,ok,ef,bl⟩ T:=by
  rintro i p q rfl hmx hlt heq
  have h1 : (s.m.lock th i).2 = true:=by unfold Mem.lock;rw [if_neg (by rw [hl i q hmx];simp)]
  unfold IOp.lock
  dsimp only
  rw [if_pos h1]
  refine ⟨rfl,?_⟩
  rw [hT,heq];exact hlt
 have alloc : pc = .alloc → (IOp.step ⟨th,x,pc,hd,hh,e,ok,ef,bl⟩ s).1.blk = false ∧ (IOp.step ⟨th,x,pc,hd,hh,e,ok,ef,bl⟩ s).1.rem (IOp.step ⟨th,x,pc,hd,hh,e,ok,ef,bl⟩ s).2.q.topStart < IOp.rem ⟨th,x,pc,hd,hh,e,ok,ef,bl⟩ T:=by
  rintro rfl
  unfold IOp.step
  dsimp only
  split <;> exact ⟨rfl,by show 3 < 4;omega⟩
 cases shp with
 | start=>
  unfold IOp.step
  dsimp only
  split
  · exact ⟨rfl,by show 0 < 9;omega⟩
  · refine ⟨rfl,?_⟩
    dsimp only
    rw [hw,hT]
    by_cases c : T ≤ x
    · rw [if_pos c];show (if T ≤ x then 7 else 11) < 9;rw [if_pos c];omega
    · rw [if_neg c];show 8 < 9;omega
 | top=>exact lock 0 .top .conf rfl rfl (by show (if T ≤ x then 6 else 10) < (if T ≤ x then 7 else 11);split <;> omega) fun _=>rfl
 | r0=>exact lock 1 .rungs .choose rfl rfl (by show 7 < 8;omega) fun _=>rfl
 | r1=>exact lock 1 .rungs .choose rfl rfl (by show 7 < 8;omega) fun _=>rfl
 | bottom=>exact lock 2 .bottom .arena rfl rfl (by show 5 < 6;omega) fun _=>rfl
 | a0=>exact lock 3 .arena .alloc rfl rfl (by show 4 < 5;omega) fun _=>rfl
 | a1=>exact lock 3 .arena .alloc rfl rfl (by show 4 < 5;omega) fun _=>rfl
 | a2=>exact lock 3 .arena .alloc rfl rfl (by show 4 < 5;omega) fun _=>rfl
 | conf=>
  unfold IOp.step
  dsimp only
  refine ⟨rfl,?_⟩
  rw [hw,hT]
  by_cases c : T ≤ x
  · rw [if_pos c];show 5 < (if T ≤ x then 6 else 10);rw [if_pos c];omega
  · rw [if_neg c];show 9 < (if T ≤ x then 6 else 10);rw [if_neg c];omega
 | undo=>exact ⟨rfl,by show 8 < 9;omega⟩
 | choose=>
  unfold IOp.step
  dsimp only
  split <;> exact ⟨rfl,by first | (show 5 < 7;omega) | (show 6 < 7;omega)⟩
 | l0=>exact alloc rfl
 | l1=>exact alloc rfl
 | l2=>exact alloc rfl
 | v0=>exact ⟨rfl,by show 2 < 3;omega⟩
 | v1=>exact ⟨rfl,by show 2 < 3;omega⟩
 | v2=>exact ⟨rfl,by show 2 < 3;omega⟩
 | p0=>exact ⟨rfl,by show 0 < 2;omega⟩
 | p1=>exact ⟨rfl,by show 0 < 2;omega⟩
 | p2=>exact ⟨rfl,by show 1 < 2;omega⟩
 | rel=>exact ⟨rfl,by show 0 < 1;omega⟩
structure Rdy (n K : Nat) (s : Sto) (S : List Item) : Prop where
 ok : SB n s S (fun _=>False) K
 thr : s.m.Thr
 free : ∀ i,i < 4 → (s.m.held i).1 = false
 noc : ∀ i,i < n → s.st i ≠ 2
def cs0 : Nat → Option Kop:=fun _=>none
theorem Rdy.ms {n K : Nat} {s : Sto} {S : List Item} (h : Rdy n K s S) (m : Nat) : MS m n K s cs0 S (fun _=>False):=
 ⟨h.ok,h.thr,fun j o _ y=>(by cases y),fun i y=>y.elim,fun j j' o o' i _ _ y=>(by cases y),fun i j o _ _ y=>(by cases y),fun i hi y=>by rw [h.free i hi] at y;cases y⟩
structure RdM (n : Nat) (s : Sto) (S : List Item) (M : Mod) : Prop where
 cap : M.cap = n
 next : M.next = s.next
 ents : M.ents = (sls S).map s.ent
 iss : ∀ h ∈ M.iss,Iss n s h
theorem ZpJ {n K : Nat} {s : Sto} {S : List Item} {A : Nat → Prop} (h : SOk n s S A K) : (sls S).Nodup ∧ ((sls S).map s.ent).Pairwise leE ∧ ∀ i,i ∈ sls S ↔ i < n ∧ s.item i ∈ S:=by
 refine ⟨Yk h.nodup fun a ha b hb e=>?_,?_,fun i=>⟨fun hi=>?_,fun hi=>List.mem_map.2 ⟨_,hi.2,rfl⟩⟩⟩
 · obtain ⟨k,_,q2,_⟩:=h.itm a ha
   obtain ⟨k',_,q2',_⟩:=h.itm b hb
   have e1 : a.slot.toNat = k:=by rw [q2];rfl
   have e2 : b.slot.toNat = k':=by rw [q2'];rfl
   rw [q2,q2',← e1,← e2,e]
 · unfold sls
   rw [List.map_map,List.pairwise_map]
   refine h.srt.imp_of_mem fun {x y} hx hy hxy=>?_
   obtain ⟨k,_,q2,_⟩:=h.itm x hx
   obtain ⟨k',_,q2',_⟩:=h.itm y hy
   rw [Zpy] at hxy
   rw [ZaV]
   rw [q2,q2'] at hxy ⊢
   have hxy : (s.slot k).time < (s.slot k').time ∨ ((s.slot k).time = (s.slot k').time ∧ (s.slot k).seq < (s.slot k').seq):=hxy
   show (s.slot k).time < (s.slot k').time ∨ ((s.slot k).time = (s.slot k').time ∧ (s.slot k).seq ≤ (s.slot k').seq)
   omega
 · obtain ⟨x,hx,rfl⟩:=List.mem_map.1 hi
   obtain ⟨k,q1,q2,q3,q4⟩:=h.itm x hx
   have e1 : x.slot.toNat = k:=by rw [q2];rfl
   rw [e1]
   exact ⟨q1,by rw [← q2];exact hx⟩
theorem RdM.gm {n K : Nat} {s : Sto} {S : List Item} {M : Mod} (h : Rdy n K s S) (hm : RdM n s S M) (m : Nat) : GM m n s S cs0 (sls S) M:=by
 obtain ⟨a1,a2,a3⟩:=ZpJ h.ok.toSOk
 refine ⟨hm.cap,hm.next,hm.ents,a1,fun i=>?_,by rw [hm.ents];exact a2,hm.iss,fun i hi y=>absurd y (h.noc i hi),fun j b i _ y=>(by cases y),fun j b _ y=>(by cases y)⟩
 rw [a3 i]
 refine ⟨fun ⟨q1,q2⟩=>⟨q1,?_,fun j o _ y=>by cases y⟩,fun ⟨q1,q2,_⟩=>⟨q1,(h.ok.all i q1 q2).resolve_left id⟩⟩
 obtain ⟨k,r1,r2,r3,r4⟩:=h.ok.itm _ q2
 rw [Za8 r2];exact r3
theorem GM.rest {m n K : Nat} {s : Sto} {S : List Item} {A : Nat → Prop} {cs : Nat → Option Kop} {L : List Nat} {M : Mod} (h : MS m n K s cs S A) (g : GM m n s S cs L M) (hn : ∀ j,j < m → cs j = Option.none) : Rdy n K s S ∧ RdM n s S M:=by
 have hA : A = fun _=>False:=by
  funext i
  refine propext ⟨fun x=>?_,fun x=>x.elim⟩
  obtain ⟨j,p,hj,hp,_⟩:=h.hnd i x
  rw [hn j hj] at hp;cases hp
 subst hA
 have hr : Rdy n K s S:=⟨h.sb,h.thr,fun i hi=>by
  cases hb : (s.m.held i).1 with
  | false=>rfl
  | true=>
   obtain ⟨j,o,hj,hp,_⟩:=h.h2 i hi hb
   rw [hn j hj] at hp
   exact absurd hp (by simp),fun i hi y=>by
  obtain ⟨j,b,hj,hb,_⟩:=g.clm i hi y
  rw [hn j hj] at hb
  exact absurd hb (by simp)⟩
 refine ⟨hr,g.cap,g.next,?_,g.iss⟩
 obtain ⟨a1,a2,a3⟩:=ZpJ h.sb.toSOk
 rw [g.ents]
 congr 1
 refine ZbH (r:=fun i j=>leE (s.ent i) (s.ent j)) (ZbG g.nd a1 fun i=>?_) ?_ ?_ fun a ha b hb r1 r2=>?_
 · rw [g.mem i,a3 i]
   refine ⟨fun ⟨q1,q2,_⟩=>⟨q1,(h.sb.all i q1 q2).resolve_left id⟩,fun ⟨q1,q2⟩=>⟨q1,?_,fun j o hj y=>by rw [hn j hj] at y;cases y⟩⟩
   obtain ⟨k,r1,r2,r3,r4⟩:=h.sb.itm _ q2
   rw [Za8 r2];exact r3
 · have:=g.srt
   rw [g.ents,List.pairwise_map] at this
   exact this
 · rw [List.pairwise_map] at a2
   exact a2
 · rw [ZaV] at r1 r2
   have r1 : (s.slot a).time < (s.slot b).time ∨ ((s.slot a).time = (s.slot b).time ∧ (s.slot a).seq ≤ (s.slot b).seq):=r1
   have r2 : (s.slot b).time < (s.slot a).time ∨ ((s.slot b).time = (s.slot a).time ∧ (s.slot b).seq ≤ (s.slot a).seq):=r2
   have ma:=(g.mem a).1 ha
   have mb:=(g.mem b).1 hb
   exact h.sb.sq a b ma.1 mb.1 ma.2.1 mb.2.1 (by omega)
def AW (n : Nat) (s : Sto) : Kop → Prop
 | .can o=>o.ph = 1 → ∃ i : Nat,i < n ∧ ZM o.h = i ∧ s.gn i = Zdi o.h ∧ s.st i = 1
 | .bat o=>o.cl = true → ∃ i : Nat,i < n ∧ o.it = s.item i ∧ s.m.word (i + 1) = o.w
 | _=>True
def WK (s : Sto) (S : List Item) : Kop → Nat
 | .ins o=>o.rem s.q.topStart
 | .can o=>if o.ph = 0 then 2 else if o.ph = 1 then 1 else 0
 | .bat o=>if o.done = true then 0 else if o.scn = false then (4 - o.held) + 3 * S.length + o.rem.length + 5 - (if o.cl = true then 1 else 0) else (o.rem.length - o.nf) + o.held
 | .unk _ z=>if z = true then 0 else 1
theorem ZsY {n : Nat} {A : Nat → Prop} {o : IOp} (ho : IOk n A o) {i : Nat} {q : PC} (hm : o.pc.mx = some (i,q)) : ∀ j,o.Hd j → j < i:=by
 have h:=ho.shp
 intro j hj
 generalize hd : o.hd = z at h
 generalize hp : o.pc = p at h hm
 unfold IOp.Hd at hj
 rw [hd,hp] at hj
 cases h <;> simp [PC.mx] at hm <;> (obtain ⟨rfl,_⟩:=hm) <;> simp [hdL] at hj <;> omega
set_option maxHeartbeats 1000000 in
theorem ZjP {m n K : Nat} {s : Sto} {S S' : List Item} {A A' : Nat → Prop} {L : List Nat} {M : Mod} {t : Nat} {o : Kop} (h : MS m n K s (upd cs0 t (some o)) S A) (g : GM m n s S (upd cs0 t (some o)) L M) (hK : K + 1 ≤ 20000) (htm : t < m)
 (hs : StepK n K s (o.step s).2 S S' A A' o (o.step s).1) (hw : AW n s o) : (o.step s).1.blk = false ∧ AW n (o.step s).2 (o.step s).1 ∧ WK (o.step s).2 S' (o.step s).1 < WK s S o:=by
 have only : ∀ {j p},upd cs0 t (some o) j = some p → j = t ∧ p = o:=fun {j p} hp=>by
  by_cases e : j = t
  · subst e;rw [Zb] at hp;cases hp;exact ⟨rfl,rfl⟩
  · rw [Zi _ _ _ _ e] at hp;cases hp
 have nohd : ∀ i,i < 4 → ¬ o.Hd i → (s.m.held i).1 = false:=fun i hi hd=>by
  cases hb : (s.m.held i).1 with
  | false=>rfl
  | true=>
   obtain ⟨j,p,_,hp,hh⟩:=h.h2 i hi hb
   rw [(only hp).2] at hh
   exact absurd hh hd
 obtain ⟨hok,hth⟩:=h.ops t o htm (Zb ..)
 cases o with
 | ins o=>
  have hok : IOk n A o:=hok
  have:=IOp.rem_step (s:=s) hok h.sb.top fun i q hm=>nohd i (by rcases ZfE hm with ⟨_,e,_⟩ | ⟨_,e,_⟩ | ⟨_,e,_⟩ | ⟨_,e,_⟩ <;> omega) fun hd=>by
   have:=ZsY hok hm i hd;omega
  exact ⟨this.1,trivial,this.2⟩
 | unk th z=>
  obtain ⟨_,rfl⟩ : 0 ≤ th ∧ z = false:=hok
  exact ⟨rfl,trivial,by show (if true = true then 0 else 1) < (if false = true then 0 else 1);simp⟩
 | can o=>
  have hok : KCan K o:=hok
  have hW : WK s S (.can o) = if o.ph = 0 then 2 else if o.ph = 1 then 1 else 0:=rfl
  show (Zs o s).1.blk = false ∧ AW n (Zs o s).2 (.can (Zs o s).1) ∧ (if (Zs o s).1.ph = 0 then 2 else if (Zs o s).1.ph = 1 then 1 else 0) < _
  have hh : (Zs o s).1.h = o.h:=(Zbn o s).2.1
  rw [hW]
  have hq : ∀ q : Int,q = 0 ∨ q = 1 → 0 < (if q = 0 then 2 else if q = 1 then 1 else 0):=fun q y=>by
   rcases y with rfl | rfl <;> simp
  rcases COp.cases h.sb hok with ⟨x,e,es⟩ | ⟨hi,hsl,hp,hst,e,ks⟩ | ⟨hi,hsl,hp,hg,hst,e,ks,_⟩ | ⟨hi,hsl,hp,hg,hst,e,ks⟩ | ⟨hi,hsl,hp,hg,hst,e,k1,k2,k3,k4,k5⟩ | ⟨hi,hsl,hp,hst,e,ks⟩
  · exact ⟨e.2.2,fun y=>(by rw [e.1] at y;cases y),by rw [e.1,if_neg (by decide),if_neg (by decide)];exact hq _ hok.ph⟩
  · exact ⟨e.2.2,fun y=>(by rw [e.1] at y;cases y),by rw [e.1,if_neg (by decide),if_neg (by decide)];exact hq _ hok.ph⟩
  · exfalso
    obtain ⟨j,b,_,hb,_⟩:=g.clm _ hi hst
    have:=(only hb).2
    cases this
  · refine ⟨e.2.2,fun _=>⟨_,hi,by rw [hh];exact hsl,by rw [ks.gn,hh];exact hg,by rw [ks.st];exact hst⟩,?_⟩
    rw [e.1,hp,if_neg (by decide),if_pos rfl,if_pos rfl];omega
  · refine ⟨e.2.2,fun y=>(by rw [e.1] at y;cases y),?_⟩
    rw [e.1,hp,if_neg (by decide),if_neg (by decide),if_neg (by decide),if_pos rfl];omega
  · exfalso
    obtain ⟨i,q1,q2,q3,q4⟩:=hw hp
    rename_i i'
    have : i = i':=by omega
    subst this
    exact hst ⟨q3,q4⟩
 | bat o=>
  have hok : KBat n s S A o:=hok
  have hbs:=BOp.cases h.sb hK hok hs.sb.toSOk
  obtain ⟨r1,r2⟩:=hok.ok.res
  have h4:=hok.ok.held
  have hdo : o.done = false:=by unfold BOp.done;rw [r1,r2];rfl
  have hWo : WK s S (.bat o) = if o.scn = false then (4 - o.held) + 3 * S.length + o.rem.length + 5 - (if o.cl = true then 1 else 0) else (o.rem.length - o.nf) + o.held:=by
   show (if o.done = true then 0 else _) = _
   rw [if_neg (by rw [hdo];decide)]
  have hW1 : ∀ (p : BOp) (x : Nat),p.rv = o.rv → p.e = o.e → (if p.scn = false then (4 - p.held) + 3 * S'.length + p.rem.length + 5 - (if p.cl = true then 1 else 0) else (p.rem.length - p.nf) + p.held) < x → WK (o.step s).2 S' (.bat p) < x:=fun p x e1 e2 hx=>by
   have : p.done = false:=by unfold BOp.done;rw [e1,e2,r1,r2];rfl
   show (if p.done = true then 0 else _) < _
   rw [if_neg (by rw [this];decide)]
   exact hx
  show (o.step s).1.blk = false ∧ AW n (o.step s).2 (.bat (o.step s).1) ∧ WK (o.step s).2 S' (.bat (o.step s).1) < _
  have hw : o.cl = true → ∃ i : Nat,i < n ∧ o.it = s.item i ∧ s.m.word (i + 1) = o.w:=hw
  rw [hWo]
  have nocl : ∀ p : BOp,p.cl = false → AW n (o.step s).2 (.bat p):=fun p e y=>by rw [e] at y;cases y
  generalize (o.step s).1 = o' at *
  generalize (o.step s).2 = s' at *
  cases hbs with
  | bad hb e es eS=>
   subst e
   obtain ⟨b1,b2,b3,b4⟩:=hok.bd hb
   have hcl : o.cl = false:=((hok.ok.early b2).2 (by omega)).1
   refine ⟨rfl,nocl _ hcl,?_⟩
   have : (BOp.done { o with e:=1,eff:=true,blk:=false }) = true:=by unfold BOp.done;simp
   show (if BOp.done { o with e:=1,eff:=true,blk:=false } = true then 0 else _) < _
   rw [if_pos this,if_pos b2,hcl,if_neg (by decide)];omega
  | no hb h1 h2 hl e es ks eS=>
   exfalso
   have:=nohd o.held h2 (fun y : o.held < o.held=>by omega)
   rw [this] at hl;cases hl
  | lock hb h1 h2 hl e ks eS=>
   subst e eS
   have hcl : o.cl = false:=((hok.ok.early h1).2 h2).1
   refine ⟨rfl,nocl _ hcl,?_⟩
   refine hW1 _ _ (by rfl) (by rfl) ?_
   dsimp only
   rw [if_pos h1,if_pos h1,hcl,if_neg (by decide)];omega
  | take hb h1 h2 h3 hS hi hx hA hl hwd e k1 k2 k3 k4 k5=>
   subst e
   refine ⟨rfl,nocl _ rfl,?_⟩
   refine hW1 _ _ (by rfl) (by rfl) ?_
   dsimp only
   rw [if_pos h1,if_pos h1,h3,if_pos rfl,if_neg (by decide),hS,List.length_cons,List.length_append,List.length_singleton];omega
  | miss hb h1 h2 h3 hS hi hx hwd e ks eS=>
   exfalso
   obtain ⟨i,q1,q2,q3⟩:=hw h3
   rename_i i' T
   have : i = i':=Za8 (s:=s) (q2.symm.trans hx)
   subst this
   exact hwd q3
  | drop hb h1 h2 h3 hS hi hx hA hcn hst e ks=>
   subst e
   refine ⟨rfl,nocl _ rfl,?_⟩
   refine hW1 _ _ (by rfl) (by rfl) ?_
   dsimp only
   rw [if_pos h1,if_pos h1,h3,if_neg (by decide),hS,List.length_cons,List.length_append,List.length_singleton];omega
  | claim hb h1 h2 h3 hS hi hx hA hcn hst e ks kw eS=>
   subst e eS
   refine ⟨rfl,fun _=>⟨_,hi,?_,kw _⟩,?_⟩
   · show _ = s'.item _
     unfold Sto.item
     rw [ks.slot];exact hx
   · refine hW1 _ _ (by rfl) (by rfl) ?_
     dsimp only
     rw [if_pos h1,if_pos h1,h3,if_pos rfl,if_neg (by decide)];omega
  | fin hb h1 h2 h3 hcn e ks eS=>
   subst e eS
   refine ⟨rfl,nocl _ h3,?_⟩
   refine hW1 _ _ (by rfl) (by rfl) ?_
   dsimp only
   rw [if_neg (show ¬ true = false by decide),if_pos h1,h3,if_neg (by decide)];omega
  | free hb h1 h2 hi hg e k1 k2 k3 k4 k5 eS=>
   subst e eS
   refine ⟨rfl,nocl _ (hok.ok.late h1).1,?_⟩
   refine hW1 _ _ (by rfl) (by rfl) ?_
   dsimp only
   rw [h1,if_neg (show ¬ true = false by decide),if_neg (show ¬ true = false by decide)];omega
  | unl hb h1 h2 e ks eS=>
   subst e eS
   have:=(hok.ok.late h1).2
   refine ⟨rfl,nocl _ (hok.ok.late h1).1,?_⟩
   have e1 : ∀ p : BOp,p.scn = true → p.nf = o.nf → p.rem = o.rem → p.held = o.held - 1 → WK s' S' (.bat p) ≤ (o.rem.length - o.nf) + (o.held - 1):=fun p a b c d=>by
    show (if p.done = true then 0 else if p.scn = false then _ else _) ≤ _
    rw [a,b,c,d]
    split
    · omega
    · rw [if_neg (show ¬ true = false by decide)];exact Nat.le_refl _
   have e2:=e1 { o with held:=o.held - 1,rv:=decide (o.held = 1),eff:=false,blk:=false } h1 rfl rfl rfl
   rw [h1] at e2 ⊢
   rw [if_neg (show ¬ true = false by decide)]
   omega
def Yc (o : Kop) (s : Sto) : Nat → Kop × Sto
 | 0=>(o,s)
 | k + 1=>(Yc o s k).1.step (Yc o s k).2
theorem Kop.for_step {n K : Nat} {s : Sto} {S : List Item} {A : Nat → Prop} (h : SB n s S A K) (hK : K + 1 ≤ 20000) (ht : s.m.Thr) {o : Kop} (ho : KopOk n K s S A o) {c : Cl} (hc : o.For c) : (o.step s).1.For c:=by
 cases o with
 | ins o=>
  obtain ⟨_,_,_,_,_,_,_,e⟩:=IOp.step_ok h hK ht (show IOk n A o from ho)
  exact ⟨hc.1,e.trans hc.2⟩
 | can o=>exact ⟨hc.1,(Zbn o s).2.1.trans hc.2⟩
 | bat o=>
  refine ⟨hc.1,?_⟩
  have e : (o.step s).1.c = o.c:=by
   unfold BOp.step BOp.lock BOp.take BOp.scan BOp.free BOp.unlock
   repeat' split
   all_goals rfl
  exact e.trans hc.2
 | unk th z=>exact hc
structure AStep (n K : Nat) (s s' : Sto) (o o' : Kop) : Prop where
 run : ∃ S A S' A',SB n s S A K ∧ s.m.Thr ∧ KopOk n K s S A o ∧ StepK n K s s' S S' A A' o o'
 blk : o'.blk = false
 late : LateK o o'
structure AR (m n K0 t : Nat) (c : Cl) (M0 : Mod) (W0 k : Nat) (o : Kop) (s : Sto) : Prop where
 st : ∃ S A L M,MS m n (K0 + k) s (upd cs0 t o.left) S A ∧ GM m n s S (upd cs0 t o.left) L M ∧ (if o.late = true then doM M0 c.cal o.fin.handle = (M,o.fin) else M = M0) ∧ (o.done = false → AW n s o ∧ WK s S o + k ≤ W0)
 fr : o.For c
 fin : o.done = true → o.late = true ∧ o.res = o.fin
theorem AR.step {m n K0 t : Nat} {c : Cl} {M0 : Mod} {W0 k : Nat} {o : Kop} {s : Sto} (h : AR m n K0 t c M0 W0 k o s) (hd : o.done = false) (hK : K0 + k + 1 ≤ 20000) (htm : t < m) :
 AR m n K0 t c M0 W0 (k + 1) (o.step s).1 (o.step s).2 ∧ AStep n (K0 + k) s (o.step s).2 o (o.step s).1 ∧ k + 1 ≤ W0:=by
 obtain ⟨S,A,L,M,hm,g,hl,hw⟩:=h.st
 rw [YA hd] at hm g
 obtain ⟨hw1,hw2⟩:=hw hd
 obtain ⟨S',A',L',M',hs,hm',g',he⟩:=g.step hm hK htm (Zb ..) h.fr
 rw [ZqE] at hm' g'
 obtain ⟨hok,hth⟩:=hm.ops t o htm (Zb ..)
 have hlt:=Kop.late_step hm.sb hK hok hs
 obtain ⟨a1,a2,a3⟩:=ZjP hm g hK htm hs hw1
 refine ⟨⟨⟨S',A',L',M',hm',g',?_,fun _=>⟨a2,by omega⟩⟩,Kop.for_step hm.sb hK hm.thr hok h.fr,fun y=>⟨hlt.dn y,hlt.res y⟩⟩,⟨⟨S,A,S',A',hm.sb,hm.thr,hok,hs⟩,a1,hlt⟩,by omega⟩
 unfold Eff at he
 cases hlo : o.late with
 | true=>
  obtain ⟨k1,k2⟩:=hlt.keep hlo
  rw [hlo,if_pos rfl] at hl
  have hef:=hlt.eff
  rw [hlo] at hef
  rw [hef,if_neg (by simp)] at he
  rw [k1,if_pos rfl,k2,he]
  exact hl
 | false=>
  rw [hlo,if_neg Bool.false_ne_true] at hl
  have hef:=hlt.eff
  rw [hlo] at hef
  cases hl' : (o.step s).1.late with
  | true=>
   rw [hef,hl',if_pos (by rfl)] at he
   rw [if_pos rfl,← hl]
   exact he
  | false=>
   rw [hef,hl',if_neg (by simp)] at he
   rw [if_neg Bool.false_ne_true,he,hl]
theorem Zta {s : Sto} {S : List Item} {th : Int} {c : Cl} : WK s S (.new th c) ≤ 3 * S.length + 9:=by
 unfold Kop.new
 split
 · show 9 ≤ _;omega
 split
 · show (if (0 : Int) = 0 then 2 else if (0 : Int) = 1 then 1 else 0) ≤ _;rw [if_pos rfl];omega
 split
 · show (if false = true then 0 else if false = false then (4 - 0) + 3 * S.length + 0 + 5 - (if false = true then 1 else 0) else 0 - 0 + 0) ≤ _
   rw [if_neg (show ¬ false = true by decide),if_pos (show false = false from rfl),if_neg (show ¬ false = true by decide)];omega
 · show (if false = true then 0 else 1) ≤ _;rw [if_neg (by decide)];omega
theorem ZgQ {th : Int} {c : Cl} : (Kop.new th c).late = false ∧ (Kop.new th c).done = false ∧ ∀ n s,AW n s (.new th c):=by
 unfold Kop.new
 split
 · exact ⟨rfl,rfl,fun n s=>trivial⟩
 split
 · exact ⟨rfl,rfl,fun n s y=>by cases y⟩
 split
 · exact ⟨rfl,rfl,fun n s y=>by cases y⟩
 · exact ⟨rfl,rfl,fun n s=>trivial⟩
theorem AR.zero {m n K0 t : Nat} {s : Sto} {S : List Item} {M0 : Mod} (hr : Rdy n K0 s S) (hM : RdM n s S M0) (c : Cl) : AR m n K0 t c M0 (3 * S.length + 9) 0 (.new t c) s:=by
 obtain ⟨e1,e2,e3⟩:=ZgQ (th:=(t : Int)) (c:=c)
 obtain ⟨k1,k2,k3,k4⟩:=Kop.new_ok (n:=n) (K:=K0) (s:=s) (S:=S) (A:=fun _=>False) (th:=(t : Int)) (by omega) c
 have hm:=hr.ms m
 have g:=hM.gm hr m
 refine ⟨⟨S,_,sls S,M0,by rw [YA e2];exact hm.new rfl k1 k2 k3 k4,?_,by rw [e1,if_neg Bool.false_ne_true],fun _=>⟨e3 n s,Zta⟩⟩,Kop.new_for _ _,fun y=>by rw [e2] at y;cases y⟩
 rw [YA e2]
 refine ⟨g.cap,g.next,g.ents,g.nd,fun i=>?_,g.srt,g.iss,fun i hi y=>absurd y (hr.noc i hi),fun j b i hj hb hh=>?_,fun j b hj hb hsc=>?_⟩
 · rw [g.mem i]
   refine ⟨fun ⟨q1,q2,_⟩=>⟨q1,q2,fun j o hj ho hgo=>?_⟩,fun ⟨q1,q2,_⟩=>⟨q1,q2,fun j o _ y=>by cases y⟩⟩
   by_cases e : j = t
   · subst e
     rw [Zb] at ho;cases ho
     cases hk : Kop.new (j : Int) c with
     | bat b=>
      rw [hk] at hgo k3
      exact k3 i hgo.2
     | _=>rw [hk] at hgo;exact hgo.elim
   · rw [Zi _ _ _ _ e] at ho;cases ho
 · by_cases e : j = t
   · subst e
     rw [Zb] at hb
     have hb:=Option.some.inj hb
     rw [hb] at k3
     exact absurd hh (k3 i)
   · rw [Zi _ _ _ _ e] at hb;cases hb
 · by_cases e : j = t
   · subst e
     rw [Zb] at hb
     have hb:=Option.some.inj hb
     rw [hb] at k4
     exact absurd (show 0 < b.held by rw [hsc.2];omega) (k4 0 (by omega))
   · rw [Zi _ _ _ _ e] at hb;cases hb
structure Alone (n K0 t : Nat) (s0 : Sto) (S0 : List Item) (M0 : Mod) (c : Cl) (e : Nat) : Prop where
 e1 : 1 ≤ e
 e2 : e ≤ 3 * S0.length + 9
 run : ∀ k,k < e → (Yc (.new t c) s0 k).1.done = false ∧ AStep n (K0 + k) (Yc (.new t c) s0 k).2 (Yc (.new t c) s0 (k + 1)).2 (Yc (.new t c) s0 k).1 (Yc (.new t c) s0 (k + 1)).1
 dn : (Yc (.new t c) s0 e).1.done = true
 lt : (Yc (.new t c) s0 e).1.late = true
 fin : ∃ S1 M1,Rdy n (K0 + e) (Yc (.new t c) s0 e).2 S1 ∧ RdM n (Yc (.new t c) s0 e).2 S1 M1 ∧ doM M0 c.cal (Yc (.new t c) s0 e).1.res.handle = (M1,(Yc (.new t c) s0 e).1.res)
theorem Zm0 {n K0 : Nat} {s0 : Sto} {S0 : List Item} {M0 : Mod} (hr : Rdy n K0 s0 S0) (hM : RdM n s0 S0 M0) (t : Nat) (c : Cl) (hK : K0 + 50 ≤ 20000) : ∃ e,Alone n K0 t s0 S0 M0 c e:=by
 have hS : S0.length ≤ 12:=by have:=hr.ok.toSOk.len;have:=hr.ok.n12;omega
 have h0:=AR.zero (m:=t + 1) (t:=t) hr hM c
 have key : ∀ k,(∀ j,j < k → (Yc (.new t c) s0 j).1.done = false) → k ≤ 46 → AR (t + 1) n K0 t c M0 (3 * S0.length + 9) k (Yc (.new t c) s0 k).1 (Yc (.new t c) s0 k).2:=fun k=>by
  induction k with
  | zero=>exact fun _ _=>h0
  | succ k ih=>exact fun hj hk=>((ih (fun j hjk=>hj j (by omega)) (by omega)).step (hj k (by omega)) (by omega) (by omega)).1
 have hex : ∃ k,(Yc (.new t c) s0 k).1.done = true:=Classical.byContradiction fun hno=>by
  have hf : ∀ k,(Yc (.new t c) s0 k).1.done = false:=fun k=>by
   cases hd : (Yc (.new t c) s0 k).1.done with
   | false=>rfl
   | true=>exact absurd ⟨k,hd⟩ hno
  have:=((key (3 * S0.length + 9) (fun j _=>hf j) (by omega)).step (hf _) (by omega) (by omega)).2.2
  omega
 have hleast : ∀ (p : Nat → Prop),(∃ k,p k) → ∃ k,p k ∧ ∀ j,j < k → ¬ p j:=fun p=>by
  rintro ⟨k,hk⟩
  induction k using Nat.strongRecOn with
  | _ k ih=>
   by_cases h : ∃ j,j < k ∧ p j
   · obtain ⟨j,hj,hp⟩:=h
     exact ih j hj hp
   · exact ⟨k,hk,fun j hj hp=>h ⟨j,hj,hp⟩⟩
 obtain ⟨e,he,hlt⟩:=hleast (fun k=>(Yc (.new t c) s0 k).1.done = true) hex
 have hlt : ∀ j,j < e → (Yc (.new t c) s0 j).1.done = false:=fun j hj=>by
  have:=hlt j hj
  simpa using this
 have hpos : 1 ≤ e:=by
  rcases Nat.eq_zero_or_pos e with y | y
  · subst y
    have:=(ZgQ (th:=(t : Int)) (c:=c)).2.1
    rw [show (Yc (.new t c) s0 0).1 = .new t c from rfl,this] at he;cases he
  · exact y
 have hle : e ≤ 3 * S0.length + 9:=by
  rcases Nat.lt_or_ge (3 * S0.length + 9) e with y | y
  · have:=((key (3 * S0.length + 9) (fun j hj=>hlt j (by omega)) (by omega)).step (hlt _ y) (by omega) (by omega)).2.2
    omega
  · exact y
 have hE:=key e hlt (by omega)
 obtain ⟨S1,A1,L1,M1,hm,g,hl,_⟩:=hE.st
 obtain ⟨f1,f2⟩:=hE.fin he
 rw [ZlB he] at hm g
 have hn : ∀ j,j < t + 1 → upd cs0 t none j = none:=fun j _=>by
  by_cases y : j = t
  · subst y;rw [Zb]
  · rw [Zi _ _ _ _ y];rfl
 obtain ⟨r1,r2⟩:=g.rest hm hn
 rw [f1,if_pos rfl] at hl
 exact ⟨e,hpos,hle,fun k hk=>⟨hlt k hk,((key k (fun j hj=>hlt j (by omega)) (by omega)).step (hlt k hk) (by omega) (by omega)).2.1⟩,he,f1,S1,M1,r1,r2,by rw [f2];exact hl⟩
end Go.Proofs.YtdjnjchpgccbiaaGreat.Abs
