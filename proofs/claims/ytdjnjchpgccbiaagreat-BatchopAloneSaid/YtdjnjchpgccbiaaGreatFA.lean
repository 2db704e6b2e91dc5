/- The model of the sequential specification: its data, and contracts of small functions. -/
import Derived.Test.YtdjnjchpgccbiaaGreatF30
import Derived.Test.YtdjnjchpgccbiaaGreatK1
namespace Go.Proofs.YtdjnjchpgccbiaaGreat.Abs
open Go.Proofs
set_option maxRecDepth 10000
set_option linter.unusedSimpArgs false
set_option linter.unusedVariables false
def cmpEnt (x y : Ent) : Int:=or2 (cmpI x.time y.time) (cmpI x.seq y.seq)
noncomputable def sortedE (l : List Ent) : Bool:=@decide (∀ (i : Nat) (x y : Ent),l[i]? = some x → l[i + 1]? = some y → ¬ cmpEnt y x < 0) (Classical.propDecidable _)
theorem sortedE_iff (l : List Ent) : sortedE l = true ↔ ∀ (i : Nat) (x y : Ent),l[i]? = some x → l[i + 1]? = some y → ¬ cmpEnt y x < 0:=by
 unfold sortedE;exact @decide_eq_true_iff _ (Classical.propDecidable _)
theorem br_neq {p X Y : Prop} [Decidable p] {z : Bool} (hz : z = decide p) (h1 : ¬ p → X) (h2 : p → Y) : brK (!z) X Y:=by subst hz;exact br_ndec h1 h2
def setM (l : List Int) : List (Value × V):=l.map fun x=>(.int .i64 x,V.bool true)
@[simp] theorem setM_plain (l : List Int) : plainM (setM l):=by
 intro e he
 obtain ⟨x,_,rfl⟩:=List.mem_map.1 he
 exact ⟨_,rfl⟩
def posE (l : List Ent) (e : Ent) : Nat:=(l.takeWhile fun x=>decide (cmpEnt x e < 0)).length
def MonoE (l : List Ent) (e : Ent) : Prop:=∀ (i j : Nat) (x y : Ent),i ≤ j → l[i]? = some x → l[j]? = some y → cmpEnt y e < 0 → cmpEnt x e < 0
def isH (h : Int) (e : Ent) : Bool:=decide (e.handle = h) && !e.dead
def handOk (h : Int) : Prop:=0 ≤ h ∧ h ≤ 70368744177727
instance (h : Int) : Decidable (handOk h):=inferInstanceAs (Decidable (_ ∧ _))
def insL (l : List Ent) (e : Ent) : List Ent:=l.take (posE l e) ++ e :: l.drop (posE l e)
def insertM (m : Mod) (c : Cal) (h : Int) : Mod × Res:=
 if c.time < 0 ∨ 1152921504606846976 < c.time then (m,Res.er 1)
 else if (m.ents.length : Int) = m.cap then (m,Res.er 10)
 else if ¬ handOk h ∨ h ∈ m.iss then (m,Res.er 1)
 else (⟨m.cap,insL m.ents ⟨c.time,m.next,h,false⟩,m.next + 1,m.iss ++ [h]⟩,⟨0,h,false,[]⟩)
def cancelM (m : Mod) (c : Cal) : Mod × Res:=
 match m.ents.findIdx? (isH c.handle) with
 | some i=>({ m with ents:=m.ents.modify i fun e=>{ e with dead:=true } },⟨0,0,true,[]⟩)
 | none=>(m,Res.er 0)
def batchL (bound max : Int) : List Ent → List Evt → List Ent × List Evt
 | [],out=>([],out)
 | e :: l,out=>if e.time < bound ∧ (out.length : Int) < max then batchL bound max l (if e.dead then out else out ++ [⟨e.time,e.handle⟩]) else (e :: l,out)
def batchM (m : Mod) (c : Cal) : Mod × Res:=
 if c.max < 0 ∨ 64 < c.max then (m,Res.er 1)
 else ({ m with ents:=(batchL c.bound c.max m.ents []).1 },⟨0,0,false,(batchL c.bound c.max m.ents []).2⟩)
structure Mod.Fits2 (m : Mod) : Prop where
 ents : m.ents.length < 1000000
 iss : m.iss.length < 1000000
def doM (m : Mod) (c : Cal) (h : Int) : Mod × Res:=
 if c.kind = 1 then insertM m c h else if c.kind = 2 then cancelM m c else if c.kind = 3 then batchM m c else (m,Res.er 1)
theorem refSameC (a b : Mod) (hf : a.Fits2) : PSpec Tryz.prog 37 [a.v,b.v] (V.bool (decide (a = b))):=by
 obtain ⟨f1,f2⟩:=hf
 refine pspec tab_ok mix Tryz.func37 (by kernel_rfl) rfl rfl ?_
 (refine go ?_; try trivial)
 refine br_ndec (fun g=>?_) (fun g1=>?_) <;> (refine go ?_; try trivial)
 · exact .same (by rw [decide_eq_false];rintro rfl;exact g rfl)
 refine br_ndec (fun g=>?_) (fun g2=>?_) <;> (refine go ?_; try trivial)
 · exact .same (by rw [decide_eq_false];rintro rfl;exact g rfl)
 refine br_ndec (fun g=>?_) (fun g3=>?_) <;> (refine go ?_; try trivial)
 · exact .same (by rw [decide_eq_false];rintro rfl;exact g rfl)
 refine br_ndec (fun g=>?_) (fun g4=>?_) <;> (refine go ?_; try trivial)
 · exact .same (by rw [decide_eq_false];rintro rfl;exact g rfl)
 simp at g3 g4
 refine loopB tab_ok mix [2,3] [0,64] (fun i : Nat=>[(5,V.int i)]) (fun i=>[]) (fun i=>i ≤ a.ents.length ∧ a.ents.take i = b.ents.take i) (fun i=>a.ents.length - i) [] 0 rfl ⟨by omega,by simp⟩ (by (refine go ?_; try trivial)) ?_
 rintro i ⟨h1,h2⟩
 (refine go ?_; try trivial)
 refine br_dec (fun g=>?_) (fun g=>?_) <;> (refine go ?_; try trivial)
 · simp at g
   obtain ⟨x,hx⟩:=get_lt g
   obtain ⟨y,hy⟩:=get_lt (show i < b.ents.length by omega)
   refine idxB hx ?_
   (refine go ?_; try trivial)
   refine idxB hy ?_
   (refine go ?_; try trivial)
   refine dneqB [true,true,true,false] (by kernel_rfl) rfl rfl rfl ?_
   (refine go ?_; try trivial)
   have exy : (decide (x.time = y.time) && (decide (x.seq = y.seq) && (decide (x.handle = y.handle) && ((x.dead == y.dead) && true)))) = decide (x = y):=by
    cases x;cases y;simp [Bool.beq_eq_decide_eq]
   refine br_neq exy (fun e=>?_) (fun e=>?_) <;> (refine go ?_; try trivial)
   · refine .same ?_
     rw [decide_eq_false]
     rintro rfl
     rw [hx] at hy;cases hy;exact e rfl
   · refine .mk [] (i + 1) ⟨by omega,?_⟩ (by omega) ?_
     · rw [List.take_add_one,List.take_add_one,hx,hy,h2,e]
     · (refine go ?_; try trivial)
 have e : i = a.ents.length:=by simp at g;omega
 subst e
 rw [List.take_length,List.take_of_length_le (by omega)] at h2
 refine loopB tab_ok mix [2,3] [0,64] (fun i : Nat=>[(6,V.int i)]) (fun i=>[]) (fun i=>i ≤ a.iss.length ∧ a.iss.take i = b.iss.take i) (fun i=>a.iss.length - i) [] 0 rfl ⟨by omega,by simp⟩ (by (refine go ?_; try trivial)) ?_
 rintro i ⟨h3,h4⟩
 (refine go ?_; try trivial)
 refine br_dec (fun g=>?_) (fun g=>?_) <;> (refine go ?_; try trivial)
 · simp at g
   obtain ⟨x,hx⟩:=get_lt g
   obtain ⟨y,hy⟩:=get_lt (show i < b.iss.length by omega)
   refine idxB hx ?_
   (refine go ?_; try trivial)
   refine idxB hy ?_
   (refine go ?_; try trivial)
   refine br_ndec (fun e=>?_) (fun e=>?_) <;> (refine go ?_; try trivial)
   · refine .same ?_
     rw [decide_eq_false]
     rintro rfl
     rw [hx] at hy;cases hy;exact e rfl
   · refine .mk [] (i + 1) ⟨by omega,?_⟩ (by omega) ?_
     · rw [List.take_add_one,List.take_add_one,hx,hy,h4,e]
     · (refine go ?_; try trivial)
 have e : i = a.iss.length:=by simp at g;omega
 subst e
 rw [List.take_length,List.take_of_length_le (by omega)] at h4
 exact .same (by cases a;cases b;simp_all)
theorem dropRow (l : List Ent) (i : Nat) : [] ++ ((l.map Ent.row).drop i).take (l.length - i) = (l.drop i).map Ent.row:=by
 rw [List.nil_append,List.take_of_length_le (by simp),List.map_drop]
theorem refBatchC (m : Mod) (c : Cal) (hf : m.Fits2) : PSpec Tryz.prog 92 [m.v,c.v] (.tup [(batchM m c).1.v,(batchM m c).2.v]):=by
 obtain ⟨f1,f2⟩:=hf
 refine pspec tab_ok mix Tryz.func92 (by kernel_rfl) rfl rfl ?_
 (refine go ?_; try trivial)
 refine br_dec (fun g1=>?_) (fun g1=>?_) <;> (refine go ?_; try trivial)
 · refine frzK ?_
   rw [batchM,if_pos (.inl g1)]
   (refine go ?_; try trivial)
 refine br_dec (fun g2=>?_) (fun g2=>?_) <;> (refine go ?_; try trivial)
 · refine frzK ?_
   rw [batchM,if_pos (.inr g2)]
   (refine go ?_; try trivial)
 have g3 : ¬ (c.max < 0 ∨ 64 < c.max):=by omega
 rw [batchM,if_neg g3]
 refine loopB2 tab_ok mix [2,3,4,5] [0,64,128,192] (fun (i : Nat) (out : List Evt)=>[(6,.ac 1 2 out.length),(7,V.int i)]) (fun i out=>[(1,.dat 2 (out.map Evt.row))]) (fun i out=>batchL c.bound c.max (m.ents.drop i) out = batchL c.bound c.max m.ents [] ∧ i ≤ m.ents.length ∧ out.length ≤ i) (fun i out=>m.ents.length - i) [] 0 [] rfl ⟨rfl,by omega,by simp⟩ (by (refine go ?_; try trivial)) ?_
 rintro i out ⟨h1,h2,h3⟩
 rw [← h1]
 (refine go ?_; try trivial)
 refine br_dec (fun g=>?_) (fun g=>?_) <;> (refine go ?_; try trivial)
 · simp at g
   obtain ⟨x,hx⟩:=get_lt g
   have hd : m.ents.drop i = x :: m.ents.drop (i + 1):=drop_get hx
   rw [hd]
   refine idxB hx ?_
   (refine go ?_; try trivial)
   refine br_dec (fun k1=>?_) (fun k1=>?_) <;> (refine go ?_; try trivial)
   · refine br_dec (fun k2=>?_) (fun k2=>?_) <;> (refine go ?_; try trivial)
     · have hb : batchL c.bound c.max (x :: m.ents.drop (i + 1)) out = batchL c.bound c.max (m.ents.drop (i + 1)) (if x.dead then out else out ++ [⟨x.time,x.handle⟩]):=by
        rw [batchL,if_pos ⟨k1,k2⟩]
       refine idxB hx ?_
       (refine go ?_; try trivial)
       refine brK_mk (fun k3=>?_) (fun k3=>?_) <;> (refine go ?_; try trivial)
       · refine .mk [] (i + 1) out ⟨by rw [hb,k3];rfl,by omega,by omega⟩ (by dsimp only;omega) ?_
         (refine go ?_; try trivial)
       · refine .mk [(1,3456)] (i + 1) (out ++ [⟨x.time,x.handle⟩]) ⟨by rw [hb,k3];rfl,by omega,by simp;omega⟩ (by dsimp only;omega) ?_
         (refine go ?_; try trivial)
         refine cb (by simp [Evt.row]) ?_
         (refine go ?_; try trivial)
     · have hb : batchL c.bound c.max (x :: m.ents.drop (i + 1)) out = (x :: m.ents.drop (i + 1),out):=by
        rw [batchL,if_neg (fun h=>k2 h.2)]
       rw [hb,← hd]
       refine slB i m.ents.length rfl (by simp [isHi]) (by simp;omega) ?_
       (refine go ?_; try trivial)
       refine frzK ?_
       (refine go ?_; try trivial)
       refine cb ⟨by simp,dropRow _ _⟩ ?_
       (refine go ?_; try trivial)
       all_goals exact cb ⟨by simp,rfl⟩ (by (refine go ?_; try trivial))
   · have hb : batchL c.bound c.max (x :: m.ents.drop (i + 1)) out = (x :: m.ents.drop (i + 1),out):=by
      rw [batchL,if_neg (fun h=>k1 h.1)]
     rw [hb,← hd]
     refine slB i m.ents.length rfl (by simp [isHi]) (by simp;omega) ?_
     (refine go ?_; try trivial)
     refine frzK ?_
     (refine go ?_; try trivial)
     refine cb ⟨by simp,dropRow _ _⟩ ?_
     (refine go ?_; try trivial)
     all_goals exact cb ⟨by simp,rfl⟩ (by (refine go ?_; try trivial))
 · simp at g
   have hd : m.ents.drop i = []:=List.drop_eq_nil_of_le (by omega)
   have hb : batchL c.bound c.max (m.ents.drop i) out = (m.ents.drop i,out):=by rw [hd];rfl
   rw [hb]
   have hi : i = m.ents.length:=by omega
   refine slB i m.ents.length rfl (by simp [isHi]) (by simp;omega) ?_
   (refine go ?_; try trivial)
   refine frzK ?_
   (refine go ?_; try trivial)
   refine cb ⟨by simp,dropRow _ _⟩ ?_
   (refine go ?_; try trivial)
   all_goals exact cb ⟨by simp,rfl⟩ (by (refine go ?_; try trivial))
theorem refDoB (m : Mod) (c : Cal) (h : Int) (hk : c.kind = 3) (hf : m.Fits2) : PSpec Tryz.prog 36 [m.v,c.v,V.int h] (.tup [(doM m c h).1.v,(doM m c h).2.v]):=by
 have g1 : ¬ c.kind = 1:=by omega
 have g2 : ¬ c.kind = 2:=by omega
 refine pspec tab_ok mix Tryz.func36 (by kernel_rfl) rfl rfl ?_
 (refine go ?_; try trivial)
 rw [decide_eq_false g1]
 (refine go ?_; try trivial)
 rw [decide_eq_false g2]
 (refine go ?_; try trivial)
 rw [decide_eq_true hk]
 (refine go ?_; try trivial)
 refine callB (refBatchC m c hf) ?_
 (refine go ?_; try trivial)
 refine frzK ?_
 rw [doM,if_neg g1,if_neg g2,if_pos hk]
 (refine go ?_; try trivial)
def leE (x y : Ent) : Prop:=¬ cmpEnt y x < 0
theorem leE_iff (x y : Ent) : leE x y ↔ x.time < y.time ∨ (x.time = y.time ∧ x.seq ≤ y.seq):=by
 unfold leE cmpEnt or2 cmpI
 repeat' split
 all_goals omega
theorem leE_trans {x y z : Ent} (h : leE x y) (g : leE y z) : leE x z:=by
 rw [leE_iff] at *;omega
theorem pair_of_adj {α : Type} {R : α → α → Prop} (tr : ∀ a b c,R a b → R b c → R a c) : ∀ {l : List α},(∀ (i : Nat) (x y : α),l[i]? = some x → l[i + 1]? = some y → R x y) → l.Pairwise R
 | [],_=>.nil
 | a :: l,h=>by
  refine List.pairwise_cons.2 ⟨?_,pair_of_adj tr fun i x y h1 h2=>h (i + 1) x y (by simpa using h1) (by simpa using h2)⟩
  have key : ∀ (j : Nat) (y : α),l[j]? = some y → R a y:=by
   intro j
   induction j with
   | zero=>intro y hy;exact h 0 a y rfl (by simpa using hy)
   | succ j ih=>
    intro y hy
    have hj:=(List.getElem?_eq_some_iff.1 hy).1
    obtain ⟨x,hx⟩:=get_lt (show j < l.length by omega)
    exact tr a x y (ih x hx) (h (j + 1) x y (by simpa using hx) (by simpa using hy))
  intro y hy
  obtain ⟨j,hj⟩:=List.getElem?_of_mem hy
  exact key j y hj
theorem sortedE_pair {l : List Ent} : sortedE l = true ↔ l.Pairwise leE:=by
 rw [sortedE_iff]
 constructor
 · intro h;exact pair_of_adj (R:=leE) (l:=l) (fun a b c h g=>leE_trans h g) h
 · intro h i x y hx hy
   rw [List.pairwise_iff_getElem] at h
   obtain ⟨h1,rfl⟩:=List.getElem?_eq_some_iff.1 hx
   obtain ⟨h2,rfl⟩:=List.getElem?_eq_some_iff.1 hy
   exact h i (i + 1) h1 h2 (by omega)
theorem cmpEnt_neg (x y : Ent) : cmpEnt x y < 0 ↔ x.time < y.time ∨ (x.time = y.time ∧ x.seq < y.seq):=by
 unfold cmpEnt or2 cmpI
 repeat' split
 all_goals omega
theorem takeWhile_posE (l : List Ent) (e : Ent) : ∀ x ∈ l.take (posE l e),cmpEnt x e < 0:=by
 intro x hx
 have he : l.take (posE l e) = l.takeWhile fun x=>decide (cmpEnt x e < 0):=by
  unfold posE
  exact (List.prefix_iff_eq_take.1 (List.takeWhile_prefix _)).symm
 rw [he] at hx
 clear he
 induction l with
 | nil=>simp at hx
 | cons a l ih=>
  by_cases ha : cmpEnt a e < 0
  · simp only [List.takeWhile_cons,ha,decide_true,if_true,List.mem_cons] at hx
    rcases hx with rfl | hx
    · exact ha
    · exact ih hx
  · simp [ha] at hx
theorem drop_posE {l : List Ent} {e : Ent} (hm : MonoE l e) : ∀ x ∈ l.drop (posE l e),¬ cmpEnt x e < 0:=by
 intro x hx hc
 obtain ⟨j,hj⟩:=List.getElem?_of_mem hx
 rw [List.getElem?_drop] at hj
 have hl:=(List.getElem?_eq_some_iff.1 hj).1
 obtain ⟨y,hy⟩:=get_lt (show posE l e < l.length by omega)
 have hcy:=hm (posE l e) (posE l e + j) y x (by omega) hy hj hc
 have : posE l e ≠ posE l e:=by
  intro _
  have h1 : ∀ (l : List Ent) (k : Nat) (y : Ent),l[k]? = some y → (l.takeWhile fun x=>decide (cmpEnt x e < 0)).length = k → ¬ cmpEnt y e < 0:=by
   intro l
   induction l with
   | nil=>intro k y hy;simp at hy
   | cons a l ih=>
    intro k y hy hk hcy
    by_cases ha : cmpEnt a e < 0
    · simp only [List.takeWhile_cons,ha,decide_true,if_true,List.length_cons] at hk
      obtain ⟨k',rfl⟩ : ∃ k',k = k' + 1:=⟨k - 1,by omega⟩
      exact ih k' y (by simpa using hy) (by omega) hcy
    · simp [ha] at hk
      subst hk
      simp at hy;subst hy;exact ha hcy
  exact h1 l _ y hy rfl hcy
 exact this rfl
theorem leE_of_neg {x e : Ent} (h : cmpEnt x e < 0) : leE x e:=by rw [cmpEnt_neg] at h;rw [leE_iff];omega
theorem insL_sorted {l : List Ent} {e : Ent} (hs : l.Pairwise leE) (hm : MonoE l e) : (insL l e).Pairwise leE:=by
 unfold insL
 rw [List.pairwise_append,List.pairwise_cons]
 refine ⟨hs.sublist (List.take_sublist _ _),⟨fun x hx=>drop_posE hm x hx,hs.sublist (List.drop_sublist _ _)⟩,fun x hx y hy=>?_⟩
 have h1:=takeWhile_posE l e x hx
 rcases List.mem_cons.1 hy with rfl | hy
 · exact leE_of_neg h1
 · exact leE_trans (leE_of_neg h1) (drop_posE hm y hy)
theorem modify_map {β : Type} (l : List Ent) (i : Nat) (f : Ent → β) (hf : ∀ e,f { e with dead:=true } = f e) : (l.modify i fun e=>{ e with dead:=true }).map f = l.map f:=by
 apply List.ext_getElem?
 intro j
 rw [List.getElem?_map,List.getElem?_map,List.getElem?_modify]
 by_cases h : i = j
 · subst h
   cases l[i]? with
   | none=>simp
   | some x=>simp [hf]
 · simp [h]
theorem leE_key {x y : Ent} : leE x y ↔ (fun p q : Int × Int=>p.1 < q.1 ∨ (p.1 = q.1 ∧ p.2 ≤ q.2)) (x.time,x.seq) (y.time,y.seq):=leE_iff x y
theorem sorted_map (l : List Ent) : sortedE l = true ↔ (l.map fun e=>(e.time,e.seq)).Pairwise fun p q : Int × Int=>p.1 < q.1 ∨ (p.1 = q.1 ∧ p.2 ≤ q.2):=by
 rw [sortedE_pair,List.pairwise_map]
 constructor <;> intro h <;> refine h.imp ?_
 · intro a b;exact leE_key.1
 · intro a b;exact leE_key.2
end Go.Proofs.YtdjnjchpgccbiaaGreat.Abs
