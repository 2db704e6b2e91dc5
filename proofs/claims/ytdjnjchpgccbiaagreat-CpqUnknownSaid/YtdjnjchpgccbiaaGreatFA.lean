/- The model of the sequential specification: its data, and contracts of small functions. -/
import Derived.Test.YtdjnjchpgccbiaaGreatF30
import Derived.Test.YtdjnjchpgccbiaaGreatK1
namespace Go.Proofs.YtdjnjchpgccbiaaGreat.Abs
open Go.Proofs
set_option maxRecDepth 10000
set_option linter.unusedSimpArgs false
set_option linter.unusedVariables false
def YU (x y : Ent) : Int:=or2 (ZcA x.time y.time) (ZcA x.seq y.seq)
noncomputable def Zfz (l : List Ent) : Bool:=@decide (∀ (i : Nat) (x y : Ent),l[i]? = some x → l[i + 1]? = some y → ¬ YU y x < 0) (Classical.propDecidable _)
theorem ZhR (l : List Ent) : Zfz l = true ↔ ∀ (i : Nat) (x y : Ent),l[i]? = some x → l[i + 1]? = some y → ¬ YU y x < 0:=by
 unfold Zfz;exact @decide_eq_true_iff _ (Classical.propDecidable _)
def Zu2 (l : List Int) : List (Value × V):=l.map fun x=>(.int .i64 x,V.bool true)
@[simp] theorem setM_plain (l : List Int) : plainM (Zu2 l):=by
 intro e he
 obtain ⟨x,_,rfl⟩:=List.mem_map.1 he
 exact ⟨_,rfl⟩
def ZkC (l : List Ent) (e : Ent) : Nat:=(l.takeWhile fun x=>decide (YU x e < 0)).length
def Zrb (l : List Ent) (e : Ent) : Prop:=∀ (i j : Nat) (x y : Ent),i ≤ j → l[i]? = some x → l[j]? = some y → YU y e < 0 → YU x e < 0
def isH (h : Int) (e : Ent) : Bool:=decide (e.handle = h) && !e.dead
def ZpC (h : Int) : Prop:=0 ≤ h ∧ h ≤ 70368744177727
instance (h : Int) : Decidable (ZpC h):=inferInstanceAs (Decidable (_ ∧ _))
def ZrN (l : List Ent) (e : Ent) : List Ent:=l.take (ZkC l e) ++ e :: l.drop (ZkC l e)
def ZcM (m : Mod) (c : Cal) (h : Int) : Mod × Res:=
 if c.time < 0 ∨ 1152921504606846976 < c.time then (m,Res.er 1)
 else if (m.ents.length : Int) = m.cap then (m,Res.er 10)
 else if ¬ ZpC h ∨ h ∈ m.iss then (m,Res.er 1)
 else (⟨m.cap,ZrN m.ents ⟨c.time,m.next,h,false⟩,m.next + 1,m.iss ++ [h]⟩,⟨0,h,false,[]⟩)
def Zgd (m : Mod) (c : Cal) : Mod × Res:=
 match m.ents.findIdx? (isH c.handle) with
 | some i=>({ m with ents:=m.ents.modify i fun e=>{ e with dead:=true } },⟨0,0,true,[]⟩)
 | none=>(m,Res.er 0)
def ZaG (bound max : Int) : List Ent → List Evt → List Ent × List Evt
 | [],out=>([],out)
 | e :: l,out=>if e.time < bound ∧ (out.length : Int) < max then ZaG bound max l (if e.dead then out else out ++ [⟨e.time,e.handle⟩]) else (e :: l,out)
def ZiT (m : Mod) (c : Cal) : Mod × Res:=
 if c.max < 0 ∨ 64 < c.max then (m,Res.er 1)
 else ({ m with ents:=(ZaG c.bound c.max m.ents []).1 },⟨0,0,false,(ZaG c.bound c.max m.ents []).2⟩)
def doM (m : Mod) (c : Cal) (h : Int) : Mod × Res:=
 if c.kind = 1 then ZcM m c h else if c.kind = 2 then Zgd m c else if c.kind = 3 then ZiT m c else (m,Res.er 1)
def leE (x y : Ent) : Prop:=¬ YU y x < 0
theorem ZaV (x y : Ent) : leE x y ↔ x.time < y.time ∨ (x.time = y.time ∧ x.seq ≤ y.seq):=by
 unfold leE YU or2 ZcA
 repeat' split
 all_goals omega
theorem ZgR {x y z : Ent} (h : leE x y) (g : leE y z) : leE x z:=by
 rw [ZaV] at *;omega
theorem Zeu {α : Type} {R : α → α → Prop} (tr : ∀ a b c,R a b → R b c → R a c) : ∀ {l : List α},(∀ (i : Nat) (x y : α),l[i]? = some x → l[i + 1]? = some y → R x y) → l.Pairwise R
 | [],_=>.nil
 | a :: l,h=>by
  refine List.pairwise_cons.2 ⟨?_,Zeu tr fun i x y h1 h2=>h (i + 1) x y (by simpa using h1) (by simpa using h2)⟩
  have key : ∀ (j : Nat) (y : α),l[j]? = some y → R a y:=by
   intro j
   induction j with
   | zero=>intro y hy;exact h 0 a y rfl (by simpa using hy)
   | succ j ih=>
    intro y hy
    have hj:=(List.getElem?_eq_some_iff.1 hy).1
    obtain ⟨x,hx⟩:=ZF (show j < l.length by omega)
    exact tr a x y (ih x hx) (h (j + 1) x y (by simpa using hx) (by simpa using hy))
  intro y hy
  obtain ⟨j,hj⟩:=List.getElem?_of_mem hy
  exact key j y hj
theorem Zdc {l : List Ent} : Zfz l = true ↔ l.Pairwise leE:=by
 rw [ZhR]
 constructor
 · intro h;exact Zeu (R:=leE) (l:=l) (fun a b c h g=>ZgR h g) h
 · intro h i x y hx hy
   rw [List.pairwise_iff_getElem] at h
   obtain ⟨h1,rfl⟩:=List.getElem?_eq_some_iff.1 hx
   obtain ⟨h2,rfl⟩:=List.getElem?_eq_some_iff.1 hy
   exact h i (i + 1) h1 h2 (by omega)
theorem Zfl (x y : Ent) : YU x y < 0 ↔ x.time < y.time ∨ (x.time = y.time ∧ x.seq < y.seq):=by
 unfold YU or2 ZcA
 repeat' split
 all_goals omega
theorem ZeD (l : List Ent) (e : Ent) : ∀ x ∈ l.take (ZkC l e),YU x e < 0:=by
 intro x hx
 have he : l.take (ZkC l e) = l.takeWhile fun x=>decide (YU x e < 0):=by
  unfold ZkC
  exact (List.prefix_iff_eq_take.1 (List.takeWhile_prefix _)).symm
 rw [he] at hx
 clear he
 induction l with
 | nil=>simp at hx
 | cons a l ih=>
  by_cases ha : YU a e < 0
  · simp only [List.takeWhile_cons,ha,decide_true,if_true,List.mem_cons] at hx
    rcases hx with rfl | hx
    · exact ha
    · exact ih hx
  · simp [ha] at hx
theorem ZgA {l : List Ent} {e : Ent} (hm : Zrb l e) : ∀ x ∈ l.drop (ZkC l e),¬ YU x e < 0:=by
 intro x hx hc
 obtain ⟨j,hj⟩:=List.getElem?_of_mem hx
 rw [List.getElem?_drop] at hj
 have hl:=(List.getElem?_eq_some_iff.1 hj).1
 obtain ⟨y,hy⟩:=ZF (show ZkC l e < l.length by omega)
 have hcy:=hm (ZkC l e) (ZkC l e + j) y x (by omega) hy hj hc
 have : ZkC l e ≠ ZkC l e:=by
  intro _
  have h1 : ∀ (l : List Ent) (k : Nat) (y : Ent),l[k]? = some y → (l.takeWhile fun x=>decide (YU x e < 0)).length = k → ¬ YU y e < 0:=by
   intro l
   induction l with
   | nil=>intro k y hy;simp at hy
   | cons a l ih=>
    intro k y hy hk hcy
    by_cases ha : YU a e < 0
    · simp only [List.takeWhile_cons,ha,decide_true,if_true,List.length_cons] at hk
      obtain ⟨k',rfl⟩ : ∃ k',k = k' + 1:=⟨k - 1,by omega⟩
      exact ih k' y (by simpa using hy) (by omega) hcy
    · simp [ha] at hk
      subst hk
      simp at hy;subst hy;exact ha hcy
  exact h1 l _ y hy rfl hcy
 exact this rfl
theorem Zfq {x e : Ent} (h : YU x e < 0) : leE x e:=by rw [Zfl] at h;rw [ZaV];omega
theorem ZhP {l : List Ent} {e : Ent} (hs : l.Pairwise leE) (hm : Zrb l e) : (ZrN l e).Pairwise leE:=by
 unfold ZrN
 rw [List.pairwise_append,List.pairwise_cons]
 refine ⟨hs.sublist (List.take_sublist _ _),⟨fun x hx=>ZgA hm x hx,hs.sublist (List.drop_sublist _ _)⟩,fun x hx y hy=>?_⟩
 have h1:=ZeD l e x hx
 rcases List.mem_cons.1 hy with rfl | hy
 · exact Zfq h1
 · exact ZgR (Zfq h1) (ZgA hm y hy)
theorem ZjT {β : Type} (l : List Ent) (i : Nat) (f : Ent → β) (hf : ∀ e,f { e with dead:=true } = f e) : (l.modify i fun e=>{ e with dead:=true }).map f = l.map f:=by
 apply List.ext_getElem?
 intro j
 rw [List.getElem?_map,List.getElem?_map,List.getElem?_modify]
 by_cases h : i = j
 · subst h
   cases l[i]? with
   | none=>simp
   | some x=>simp [hf]
 · simp [h]
theorem Znn {x y : Ent} : leE x y ↔ (fun p q : Int × Int=>p.1 < q.1 ∨ (p.1 = q.1 ∧ p.2 ≤ q.2)) (x.time,x.seq) (y.time,y.seq):=ZaV x y
theorem Zj6 (l : List Ent) : Zfz l = true ↔ (l.map fun e=>(e.time,e.seq)).Pairwise fun p q : Int × Int=>p.1 < q.1 ∨ (p.1 = q.1 ∧ p.2 ≤ q.2):=by
 rw [Zdc,List.pairwise_map]
 constructor <;> intro h <;> refine h.imp ?_
 · intro a b;exact Znn.1
 · intro a b;exact Znn.2
end Go.Proofs.YtdjnjchpgccbiaaGreat.Abs
