/- The model of the sequential specification: its data, and contracts of small functions. -/
import Derived.Test.YtdjnjchpgccbiaaGreatF30
import Derived.Test.YtdjnjchpgccbiaaGreatK1
namespace Go.Proofs.YtdjnjchpgccbiaaGreat.Abs
open Go.Proofs
set_option maxRecDepth 10000
set_option linter.unusedSimpArgs false
set_option linter.unusedVariables false
def cmpEnt (x y : Ent) : Int:=or2 (cmpI x.time y.time) (cmpI x.seq y.seq)
noncomputable def sortedE (l : List Ent) : Bool:=@decide (∀ (i : Nat) (x y : Ent),l[i]? = some x → l[i + 1]? = some y → ¬ cmpEnt y x < 0) (Classical.propDecidable _)
theorem sortedE_iff (l : List Ent) : sortedE l = true ↔ ∀ (i : Nat) (x y : Ent),l[i]? = some x → l[i + 1]? = some y → ¬ cmpEnt y x < 0:=by
 unfold sortedE;exact @decide_eq_true_iff _ (Classical.propDecidable _)
def setM (l : List Int) : List (Value × V):=l.map fun x=>(.int .i64 x,V.bool true)
@[simp] theorem setM_plain (l : List Int) : plainM (setM l):=by
 intro e he
 obtain ⟨x,_,rfl⟩:=List.mem_map.1 he
 exact ⟨_,rfl⟩
def posE (l : List Ent) (e : Ent) : Nat:=(l.takeWhile fun x=>decide (cmpEnt x e < 0)).length
def MonoE (l : List Ent) (e : Ent) : Prop:=∀ (i j : Nat) (x y : Ent),i ≤ j → l[i]? = some x → l[j]? = some y → cmpEnt y e < 0 → cmpEnt x e < 0
def isH (h : Int) (e : Ent) : Bool:=decide (e.handle = h) && !e.dead
def handOk (h : Int) : Prop:=0 ≤ h ∧ h ≤ 70368744177727
instance (h : Int) : Decidable (handOk h):=inferInstanceAs (Decidable (_ ∧ _))
def insL (l : List Ent) (e : Ent) : List Ent:=l.take (posE l e) ++ e :: l.drop (posE l e)
def insertM (m : Mod) (c : Cal) (h : Int) : Mod × Res:=
 if c.time < 0 ∨ 1152921504606846976 < c.time then (m,Res.er 1)
 else if (m.ents.length : Int) = m.cap then (m,Res.er 10)
 else if ¬ handOk h ∨ h ∈ m.iss then (m,Res.er 1)
 else (⟨m.cap,insL m.ents ⟨c.time,m.next,h,false⟩,m.next + 1,m.iss ++ [h]⟩,⟨0,h,false,[]⟩)
def cancelM (m : Mod) (c : Cal) : Mod × Res:=
 match m.ents.findIdx? (isH c.handle) with
 | some i=>({ m with ents:=m.ents.modify i fun e=>{ e with dead:=true } },⟨0,0,true,[]⟩)
 | none=>(m,Res.er 0)
def batchL (bound max : Int) : List Ent → List Evt → List Ent × List Evt
 | [],out=>([],out)
 | e :: l,out=>if e.time < bound ∧ (out.length : Int) < max then batchL bound max l (if e.dead then out else out ++ [⟨e.time,e.handle⟩]) else (e :: l,out)
def batchM (m : Mod) (c : Cal) : Mod × Res:=
 if c.max < 0 ∨ 64 < c.max then (m,Res.er 1)
 else ({ m with ents:=(batchL c.bound c.max m.ents []).1 },⟨0,0,false,(batchL c.bound c.max m.ents []).2⟩)
def doM (m : Mod) (c : Cal) (h : Int) : Mod × Res:=
 if c.kind = 1 then insertM m c h else if c.kind = 2 then cancelM m c else if c.kind = 3 then batchM m c else (m,Res.er 1)
def leE (x y : Ent) : Prop:=¬ cmpEnt y x < 0
theorem leE_iff (x y : Ent) : leE x y ↔ x.time < y.time ∨ (x.time = y.time ∧ x.seq ≤ y.seq):=by
 unfold leE cmpEnt or2 cmpI
 repeat' split
 all_goals omega
theorem leE_trans {x y z : Ent} (h : leE x y) (g : leE y z) : leE x z:=by
 rw [leE_iff] at *;omega
theorem pair_of_adj {α : Type} {R : α → α → Prop} (tr : ∀ a b c,R a b → R b c → R a c) : ∀ {l : List α},(∀ (i : Nat) (x y : α),l[i]? = some x → l[i + 1]? = some y → R x y) → l.Pairwise R
 | [],_=>.nil
 | a :: l,h=>by
  refine List.pairwise_cons.2 ⟨?_,pair_of_adj tr fun i x y h1 h2=>h (i + 1) x y (by simpa using h1) (by simpa using h2)⟩
  have key : ∀ (j : Nat) (y : α),l[j]? = some y → R a y:=by
   intro j
   induction j with
   | zero=>intro y hy;exact h 0 a y rfl (by simpa using hy)
   | succ j ih=>
    intro y hy
    have hj:=(List.getElem?_eq_some_iff.1 hy).1
    obtain ⟨x,hx⟩:=get_lt (show j < l.length by omega)
    exact tr a x y (ih x hx) (h (j + 1) x y (by simpa using hx) (by simpa using hy))
  intro y hy
  obtain ⟨j,hj⟩:=List.getElem?_of_mem hy
  exact key j y hj
theorem sortedE_pair {l : List Ent} : sortedE l = true ↔ l.Pairwise leE:=by
 rw [sortedE_iff]
 constructor
 · intro h;exact pair_of_adj (R:=leE) (l:=l) (fun a b c h g=>leE_trans h g) h
 · intro h i x y hx hy
   rw [List.pairwise_iff_getElem] at h
   obtain ⟨h1,rfl⟩:=List.getElem?_eq_some_iff.1 hx
   obtain ⟨h2,rfl⟩:=List.getElem?_eq_some_iff.1 hy
   exact h i (i + 1) h1 h2 (by omega)
theorem cmpEnt_neg (x y : Ent) : cmpEnt x y < 0 ↔ x.time < y.time ∨ (x.time = y.time ∧ x.seq < y.seq):=by
 unfold cmpEnt or2 cmpI
 repeat' split
 all_goals omega
theorem takeWhile_posE (l : List Ent) (e : Ent) : ∀ x ∈ l.take (posE l e),cmpEnt x e < 0:=by
 intro x hx
 have he : l.take (posE l e) = l.takeWhile fun x=>decide (cmpEnt x e < 0):=by
  unfold posE
  exact (List.prefix_iff_eq_take.1 (List.takeWhile_prefix _)).symm
 rw [he] at hx
 clear he
 induction l with
 | nil=>simp at hx
 | cons a l ih=>
  by_cases ha : cmpEnt a e < 0
  · simp only [List.takeWhile_cons,ha,decide_true,if_true,List.mem_cons] at hx
    rcases hx with rfl | hx
    · exact ha
    · exact ih hx
  · simp [ha] at hx
theorem drop_posE {l : List Ent} {e : Ent} (hm : MonoE l e) : ∀ x ∈ l.drop (posE l e),¬ cmpEnt x e < 0:=by
 intro x hx hc
 obtain ⟨j,hj⟩:=List.getElem?_of_mem hx
 rw [List.getElem?_drop] at hj
 have hl:=(List.getElem?_eq_some_iff.1 hj).1
 obtain ⟨y,hy⟩:=get_lt (show posE l e < l.length by omega)
 have hcy:=hm (posE l e) (posE l e + j) y x (by omega) hy hj hc
 have : posE l e ≠ posE l e:=by
  intro _
  have h1 : ∀ (l : List Ent) (k : Nat) (y : Ent),l[k]? = some y → (l.takeWhile fun x=>decide (cmpEnt x e < 0)).length = k → ¬ cmpEnt y e < 0:=by
   intro l
   induction l with
   | nil=>intro k y hy;simp at hy
   | cons a l ih=>
    intro k y hy hk hcy
    by_cases ha : cmpEnt a e < 0
    · simp only [List.takeWhile_cons,ha,decide_true,if_true,List.length_cons] at hk
      obtain ⟨k',rfl⟩ : ∃ k',k = k' + 1:=⟨k - 1,by omega⟩
      exact ih k' y (by simpa using hy) (by omega) hcy
    · simp [ha] at hk
      subst hk
      simp at hy;subst hy;exact ha hcy
  exact h1 l _ y hy rfl hcy
 exact this rfl
theorem leE_of_neg {x e : Ent} (h : cmpEnt x e < 0) : leE x e:=by rw [cmpEnt_neg] at h;rw [leE_iff];omega
theorem insL_sorted {l : List Ent} {e : Ent} (hs : l.Pairwise leE) (hm : MonoE l e) : (insL l e).Pairwise leE:=by
 unfold insL
 rw [List.pairwise_append,List.pairwise_cons]
 refine ⟨hs.sublist (List.take_sublist _ _),⟨fun x hx=>drop_posE hm x hx,hs.sublist (List.drop_sublist _ _)⟩,fun x hx y hy=>?_⟩
 have h1:=takeWhile_posE l e x hx
 rcases List.mem_cons.1 hy with rfl | hy
 · exact leE_of_neg h1
 · exact leE_trans (leE_of_neg h1) (drop_posE hm y hy)
theorem modify_map {β : Type} (l : List Ent) (i : Nat) (f : Ent → β) (hf : ∀ e,f { e with dead:=true } = f e) : (l.modify i fun e=>{ e with dead:=true }).map f = l.map f:=by
 apply List.ext_getElem?
 intro j
 rw [List.getElem?_map,List.getElem?_map,List.getElem?_modify]
 by_cases h : i = j
 · subst h
   cases l[i]? with
   | none=>simp
   | some x=>simp [hf]
 · simp [h]
theorem leE_key {x y : Ent} : leE x y ↔ (fun p q : Int × Int=>p.1 < q.1 ∨ (p.1 = q.1 ∧ p.2 ≤ q.2)) (x.time,x.seq) (y.time,y.seq):=leE_iff x y
theorem sorted_map (l : List Ent) : sortedE l = true ↔ (l.map fun e=>(e.time,e.seq)).Pairwise fun p q : Int × Int=>p.1 < q.1 ∨ (p.1 = q.1 ∧ p.2 ≤ q.2):=by
 rw [sortedE_pair,List.pairwise_map]
 constructor <;> intro h <;> refine h.imp ?_
 · intro a b;exact leE_key.1
 · intro a b;exact leE_key.2
end Go.Proofs.YtdjnjchpgccbiaaGreat.Abs
