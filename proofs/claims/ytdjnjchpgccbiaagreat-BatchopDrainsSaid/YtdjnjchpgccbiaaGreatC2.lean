/- The abstract machine, part 17: what the reckoning says is so. -/
import Derived.Test.YtdjnjchpgccbiaaGreatC1
namespace Go.Proofs.YtdjnjchpgccbiaaGreat.Abs
set_option linter.unusedVariables false
set_option linter.unusedSimpArgs false
section
variable {P : Program} {tab : Tab}
theorem tSet_of : ∀ {t : List V} {i : Nat} {v : V} {K : List V → Prop},tSet t i v K → i < t.length ∧ ∃ t',K t' ∧ tAt t' = upd (tAt t) i v ∧ t'.length = t.length
 | [],_,_,_,h=>by cases h
 | x :: l,0,v,K,h=>by
  refine ⟨by simp,v :: l,h,?_,by simp⟩
  funext m
  cases m with
  | zero=>simp [tAt,upd]
  | succ m=>simp [tAt,upd]
 | x :: l,i + 1,v,K,h=>by
  obtain ⟨h1,t',h2,h3,h4⟩:=tSet_of (t:=l) (K:=fun l'=>K (x :: l')) h
  refine ⟨by simpa using h1,x :: t',h2,?_,by simp [h4]⟩
  funext m
  cases m with
  | zero=>simp [tAt,upd]
  | succ m=>
   have:=congrFun h3 m
   simp only [tAt,upd,Nat.add_right_cancel_iff] at this ⊢
   exact this
theorem listK_of {α : Type} : ∀ {l : List α} {K : List α → Prop},listK l K → K l
 | [],_,h=>h
 | x :: l,K,h=>listK_of (l:=l) (K:=fun l'=>K (x :: l')) h
theorem sucK_of {b : Nat} {K : Nat → Prop} (h : sucK b K) : K (b + 1):=h
theorem lenK_of {α : Type} : ∀ {l : List α} {n : Nat} {K : Nat → Prop},lenK l n K → K (n + l.length)
 | [],_,_,h=>h
 | x :: l,n,K,h=>by
  have:=lenK_of (l:=l) (sucK_of h)
  rw [List.length_cons,Nat.add_comm l.length 1,← Nat.add_assoc];exact this
theorem hSet_of : ∀ {h : List (Nat × B)} {n : Nat} {b : B} {K : List (Nat × B) → Prop},hSet h n b K → ∃ h',K h' ∧ hAt h' = upd (hAt h) n (some b)
 | [],n,b,K,h=>⟨_,h,by
  funext m
  simp only [hAt,upd]
  by_cases e : m = n
  · subst e;simp
  · have : Nat.beq m n = false:=by rw [Bool.eq_false_iff];simpa using e
    simp [e,this]⟩
 | p :: l,n,b,K,h=>by
  simp only [hSet] at h
  split at h
  · next e=>
    have e:=Nat.eq_of_beq_eq_true e
    refine ⟨_,h,?_⟩
    funext m
    simp only [hAt,upd]
    by_cases e' : m = n
    · subst e';simp
    · have : Nat.beq m n = false:=by rw [Bool.eq_false_iff];simpa using e'
      rw [← e,this,if_neg e']
  · next e=>
    have e:=Nat.ne_of_beq_eq_false e
    obtain ⟨h',h1,h2⟩:=hSet_of (h:=l) (K:=fun l'=>K (p :: l')) h
    refine ⟨_,h1,?_⟩
    funext m
    have:=congrFun h2 m
    simp only [hAt,upd] at this ⊢
    split
    · next e2=>
      have e2:=Nat.eq_of_beq_eq_true e2
      rw [if_neg (by omega)]
    · exact this
theorem hDel_of : ∀ {h : List (Nat × B)} {n : Nat} {K : List (Nat × B) → Prop},hDel h n K → ∃ h',K h' ∧ hAt h' = upd (hAt h) n none
 | [],n,K,h=>⟨_,h,by funext m;simp [hAt,upd]⟩
 | p :: l,n,K,h=>by
  simp only [hDel] at h
  split at h
  · next e=>
    have e:=Nat.eq_of_beq_eq_true e
    obtain ⟨h',h1,h2⟩:=hDel_of (h:=l) h
    refine ⟨_,h1,?_⟩
    rw [h2]
    funext m
    simp only [hAt,upd]
    by_cases e' : m = n
    · subst e';simp
    · have : Nat.beq m p.1 = false:=by rw [Bool.eq_false_iff];simp;omega
      rw [if_neg e',if_neg e',this]
  · next e=>
    have e:=Nat.ne_of_beq_eq_false e
    obtain ⟨h',h1,h2⟩:=hDel_of (h:=l) (K:=fun l'=>K (p :: l')) h
    refine ⟨_,h1,?_⟩
    funext m
    have:=congrFun h2 m
    simp only [hAt,upd] at this ⊢
    split
    · next e2=>
      have e2:=Nat.eq_of_beq_eq_true e2
      rw [if_neg (by omega)]
    · exact this
theorem evK_of {t : List V} {x : Operand} {K : V → Prop} (h : evK t x K) : K (evS (tAt t) x):=by
 cases x <;> exact h
theorem headK_of {x : V} {K : V → Prop} (h : headK x K) : K x:=by
 cases x with
 | c v=>cases v <;> exact h
 | _=>exact h
theorem headsK_of : ∀ {l : List V} {K : List V → Prop},headsK l K → K l
 | [],_,h=>h
 | x :: l,K,h=>headsK_of (l:=l) (K:=fun l=>K (x :: l)) (headK_of (K:=fun x=>headsK l fun l=>K (x :: l)) h)
theorem valK_of {x : V} {K : V → Prop} (h : valK x K) : K x:=by
 cases x with
 | c v=>cases v <;> exact h
 | agg xs=>exact headsK_of (K:=fun xs=>K (.agg xs)) h
 | tup xs=>exact headsK_of (K:=fun xs=>K (.tup xs)) h
 | fn f a b=>exact headsK_of (K:=fun b=>K (.fn f a b)) (headsK_of (K:=fun a=>headsK b fun b=>K (.fn f a b)) h)
 | ifc t x=>exact headK_of (K:=fun x=>K (.ifc t x)) h
 | _=>exact h
theorem valsK_of : ∀ {l : List V} {K : List V → Prop},valsK l K → K l
 | [],_,h=>h
 | x :: l,K,h=>valsK_of (l:=l) (K:=fun l=>K (x :: l)) (valK_of (K:=fun x=>valsK l fun l=>K (x :: l)) h)
theorem optK_of {α : Type} {o : Option α} {K : α → Prop} (h : optK o K) : ∃ x,o = some x ∧ K x:=by
 cases o with
 | none=>cases h
 | some x=>exact ⟨x,rfl,h⟩
theorem okK_of {c : Bool} {K : Prop} (h : okK c K) : c = true ∧ K:=by
 cases c with
 | false=>cases h
 | true=>exact ⟨rfl,h⟩
theorem evsK_of {t : List V} : ∀ {l : List Operand} {K : List V → Prop},evsK t l K → K (l.map (evS (tAt t)))
 | [],_,h=>h
 | x :: l,K,h=>evsK_of (l:=l) (K:=fun l=>K (_ :: l)) (valK_of (K:=fun x=>evsK t l fun l=>K (x :: l)) (evK_of (K:=fun x=>valK x fun x=>evsK t l fun l=>K (x :: l)) h))
theorem evpK_of {t : List V} : ∀ {l : List (Nat × Operand)} {K : List (Nat × V) → Prop},evpK t l K → K (l.map fun p=>(p.1,evS (tAt t) p.2))
 | [],_,h=>h
 | p :: l,K,h=>evpK_of (l:=l) (K:=fun l=>K (_ :: l)) (valK_of (K:=fun x=>evpK t l fun l=>K ((p.1,x) :: l)) (evK_of (K:=fun x=>valK x fun x=>evpK t l fun l=>K ((p.1,x) :: l)) h))
theorem cellsK_of {x : V} {K : List V → Prop} (h : cellsK x K) : ∃ xs,x.cells = some xs ∧ K xs:=by
 cases x with
 | agg xs=>exact ⟨xs,rfl,h⟩
 | un=>cases h
 | tup xs=>cases h
 | c v=>
  simp only [cellsK] at h
  split at h
  · next e=>exact ⟨_,by simp [V.cells,V.leaf,e],h⟩
  · cases h
 | _=>exact ⟨_,rfl,h⟩
theorem binK_of {op : BinOp} {k : IntKind} {a b : Int} {K : V → Prop} (h : binK op k a b K) : ∃ v,intBin op k a b = some v ∧ K v:=by
 cases op <;> simp only [binK] at h
 all_goals first
  | cases h;done
  | exact ⟨_,rfl,h⟩
  | (obtain ⟨h⟩:=h;exact ⟨_,rfl,h⟩)
  | (obtain ⟨h0,h1⟩:=h;obtain ⟨h1⟩:=h1;exact ⟨_,by simp only [intBin];rw [if_neg h0],h1⟩)
  | (obtain ⟨h0,h1⟩:=h;exact ⟨_,by simp only [intBin];rw [if_neg h0],h1⟩)
theorem shiftK_of {op : BinOp} {k : IntKind} {a b : Int} {K : V → Prop} (h : shiftK op k a b K) : ∃ v,shiftBin op k a b = some v ∧ K v:=by
 cases op <;> simp only [shiftK] at h
 all_goals first
  | cases h;done
  | (obtain ⟨h0,h1⟩:=h;obtain ⟨h1⟩:=h1;exact ⟨_,by unfold shiftBin;rw [if_neg h0],h1⟩)
  | (obtain ⟨h0,h1⟩:=h;exact ⟨_,by unfold shiftBin;rw [if_neg h0],h1⟩)
theorem sameK_of {k k' : IntKind} {K : Prop} (h : sameK k k' K) : k = k' ∧ K:=by
 unfold sameK at h
 split at h
 · exact ⟨rfl,h⟩
 · exact ⟨h.1,h.2⟩
theorem binOpK_of {t : TypeId} {op : BinOp} {y : Operand} {vx vy : V} {K : V → Prop} (h : binOpK ((tab t).map Ty.kind) op y vx vy K) (hp : Hp) : ∃ v,binOpV tab op t y vx vy hp = some (v,hp) ∧ K v:=by
 unfold binOpK at h
 split at h
 · next hn=>
   split at h
   · obtain ⟨z,hz,hk⟩:=optK_of h
     exact ⟨_,by unfold binOpV;rw [hn];simp [hz],hk⟩
   · obtain ⟨z,hz,hk⟩:=optK_of h
     exact ⟨_,by unfold binOpV;rw [hn];simp [hz],hk⟩
   · cases h
 · next hn=>
   have key : ∀ v,binV ((tab t).map Ty.kind) op vx vy = some v → binOpV tab op t y vx vy hp = some (v,hp):=by
    intro v hv
    unfold binOpV
    rw [hn]
    cases op <;> simp [hv]
   split at h
   · next k a=>
     split at h
     · next k' b=>
       split at h
       · obtain ⟨v,hv,hk⟩:=shiftK_of h;exact ⟨v,key v (by simpa [binV] using hv),hk⟩
       · obtain ⟨v,hv,hk⟩:=shiftK_of h;exact ⟨v,key v (by simpa [binV] using hv),hk⟩
       · next h1 h2=>
         obtain ⟨e,h'⟩:=sameK_of h
         subst e
         obtain ⟨v,hv,hk⟩:=binK_of h'
         refine ⟨v,key v ?_,hk⟩
         unfold binV
         split
         · next e1 e2=>cases e1;cases e2;simp only [if_true];cases op <;> first | exact absurd rfl h1 | exact absurd rfl h2 | exact hv
         · next e1 e2=>cases e1
         · next h3 _=>exact absurd rfl (h3 _ _ _ _ rfl)
     · cases h
   · next a=>
     split at h
     · next b=>
       split at h
       · next htk=>exact ⟨_,key _ (by rw [htk];rfl),h⟩
       · next htk=>exact ⟨_,key _ (by rw [htk];rfl),h⟩
       · cases h
     · cases h
   · cases h
theorem unK_of {op : UnOp} {x : V} {K : V → Prop} (h : unK op x K) : ∃ v,unV op x = some v ∧ K v:=by
 unfold unK at h
 split at h
 · obtain ⟨h⟩:=h;exact ⟨_,rfl,h⟩
 · split at h
   · exact ⟨_,rfl,h⟩
   · exact ⟨_,rfl,h⟩
 · cases h
theorem convK_of {src dst : TypeId} {x : V} {K : V → Prop} (h : convK tab src dst x K) : (tab src).isSome = true ∧ ∃ v,convV tab dst x = some v ∧ K v:=by
 unfold convK at h
 split at h
 · next h1 h2=>obtain ⟨h⟩:=h;exact ⟨by rw [h1];rfl,_,by unfold convV;rw [h2],h⟩
 · cases h
theorem rowK_of {τ : Ty} {row : List V} {j : Nat} {K : V → Prop} (h : rowK τ row j K) : ∃ v,loadRow τ row j = some v ∧ K v:=by
 unfold rowK at h
 split at h
 · next ha=>
   split at h
   · next hb=>
     have hb:=Nat.le_of_ble_eq_true hb
     exact ⟨_,by unfold loadRow;rw [if_pos ha,if_pos hb],valsK_of (K:=fun xs=>K (.agg xs)) h⟩
   · cases h
 · next ha=>
   obtain ⟨v,hv,hk⟩:=optK_of h
   exact ⟨v,by unfold loadRow;rw [ha];simpa using hv,hk⟩
theorem loadK_of {h : List (Nat × B)} {t : TypeId} {a : V} {K : V → Prop} (hk : loadK tab h t a K) : ∃ v,loadV tab (hAt h) t a = some v ∧ K v:=by
 unfold loadK at hk
 split at hk
 case h_2=>cases hk
 next τ hτ=>
 unfold loadV
 rw [hτ,Option.bind_some]
 split at hk
 · next n sz i j=>
   dsimp only
   split at hk
   · next sz' r hr=>
     split at hk
     case h_2=>cases hk
     next e=>
     have e:=Nat.eq_of_beq_eq_true e
     obtain ⟨row,hrow,hk⟩:=optK_of hk
     obtain ⟨v,hv,hk⟩:=rowK_of hk
     exact ⟨v,by rw [hr];dsimp only;rw [if_pos e,hrow,Option.bind_some,hv],valK_of hk⟩
   · next sz' r hr=>
     split at hk
     case h_2=>cases hk
     next e=>
     have e:=Nat.eq_of_beq_eq_true e
     obtain ⟨row,hrow,hk⟩:=hk
     obtain ⟨v,hv,hk⟩:=rowK_of hk
     exact ⟨v,by rw [hr];dsimp only;rw [if_pos e,hrow,Option.bind_some,hv],valK_of hk⟩
   · cases hk
 · next row j=>
   obtain ⟨v,hv,hk⟩:=rowK_of hk
   exact ⟨v,hv,valK_of hk⟩
 · cases hk
theorem storeK_of {h : List (Nat × B)} {t : TypeId} {a x : V} {K : List (Nat × B) → Prop} (hk : storeK tab h t a x K) : ∃ h',storeV tab (hAt h) t a x = some (hAt h') ∧ K h':=by
 unfold storeK at hk
 split at hk
 case h_2=>cases hk
 next τ hτ=>
 unfold storeV
 rw [hτ,Option.bind_some]
 split at hk
 · next n sz i j=>
   dsimp only
   split at hk
   · next sz' r hr=>
     obtain ⟨e,hk⟩:=okK_of hk
     have e:=Nat.eq_of_beq_eq_true e
     obtain ⟨row,hrow,hk⟩:=optK_of hk
     obtain ⟨xs,hxs,hk⟩:=cellsK_of hk
     obtain ⟨e1,hk⟩:=okK_of hk
     obtain ⟨e2,hk⟩:=okK_of hk
     obtain ⟨e3,hk⟩:=okK_of hk
     have hk:=listK_of hk
     have hk:=listK_of hk
     obtain ⟨h',hk,hh⟩:=hSet_of hk
     refine ⟨h',?_,hk⟩
     rw [hr];dsimp only
     rw [if_pos e,hrow,Option.bind_some,hxs,Option.bind_some,if_pos ⟨Nat.eq_of_beq_eq_true e1,Nat.le_of_ble_eq_true e2,e3⟩,hh]
   · next sz' r hr=>
     obtain ⟨e,hk⟩:=okK_of hk
     have e:=Nat.eq_of_beq_eq_true e
     obtain ⟨row,hrow,hk⟩:=hk
     obtain ⟨xs,hxs,hk⟩:=cellsK_of hk
     obtain ⟨ds,hds,hk⟩:=optK_of hk
     obtain ⟨e1,hk⟩:=okK_of hk
     obtain ⟨e2,hk⟩:=okK_of hk
     have hk:=listK_of hk
     obtain ⟨h',hk,hh⟩:=hSet_of hk
     refine ⟨h',?_,hk⟩
     rw [hr];dsimp only
     rw [if_pos e,hrow,Option.bind_some,hxs,Option.bind_some,hds,Option.bind_some,if_pos ⟨Nat.eq_of_beq_eq_true e1,Nat.le_of_ble_eq_true e2⟩,hh]
   · cases hk
 · cases hk
theorem fieldK_of {s : TypeId} {f : Nat} {K : Nat → Ty → Prop} (h : fieldK tab s f K) : ∃ p,fieldV tab s f = some p ∧ K p.1 p.2:=by
 unfold fieldK at h
 split at h
 case h_2=>cases h
 next τ hτ=>
 split at h
 case h_2=>cases h
 next fs hfs=>
 split at h
 case h_2=>cases h
 next p hp=>
 split at h
 case h_2=>cases h
 next τ' hτ'=>
 exact ⟨(p.1,τ'),by unfold fieldV;rw [hτ,Option.bind_some];simp [hfs,hp,hτ'],h⟩
theorem fieldAddrK_of {s : TypeId} {x : V} {f : Nat} {K : V → Prop} (h : fieldAddrK tab s x f K) : ∃ v,fieldAddrV tab s x f = some v ∧ K v:=by
 unfold fieldAddrK at h
 obtain ⟨p,hp,h⟩:=fieldK_of h
 unfold fieldAddrV
 rw [hp,Option.bind_some]
 split at h
 case h_1=>cases h
 next e=>
 rw [if_neg (Nat.ne_of_beq_eq_false e)]
 split at h
 · exact ⟨_,rfl,h⟩
 · exact ⟨_,rfl,h⟩
 · cases h
theorem fieldValK_of {s : TypeId} {x : V} {f : Nat} {K : V → Prop} (h : fieldValK tab s x f K) : ∃ v,fieldValV tab s x f = some v ∧ K v:=by
 unfold fieldValK at h
 obtain ⟨p,hp,h⟩:=fieldK_of h
 unfold fieldValV
 rw [hp,Option.bind_some]
 split at h
 · obtain ⟨v,hv,h⟩:=rowK_of h
   exact ⟨v,hv,valK_of h⟩
 · cases h
theorem elemK_of {t : TypeId} {K : TK → Ty → Prop} (h : elemK tab t K) : ∃ τ ε,tab t = some τ ∧ elemV tab t = some ε ∧ K τ.kind ε ∧ (∀ e,τ.kind = .slice e → sliceElem tab t = some ε):=by
 unfold elemK at h
 split at h
 case h_2=>cases h
 next τ hτ=>
 split at h
 · next e hk=>
   split at h
   case h_2=>cases h
   next ε hε=>exact ⟨τ,ε,hτ,by simp [elemV,hτ,hk,hε],by rw [hk];exact h,fun e' he=>by simp [sliceElem,hτ,hk,hε]⟩
 · next n e hk=>
   split at h
   case h_2=>cases h
   next ε hε=>exact ⟨τ,ε,hτ,by simp [elemV,hτ,hk,hε],by rw [hk];exact h,fun e' he=>by rw [hk] at he;cases he⟩
 · cases h
theorem indexAddrK_of {t : TypeId} {x ix : V} {K : V → Prop} (h : indexAddrK tab t x ix K) : ∃ v,indexAddrV tab t x ix = some v ∧ K v:=by
 unfold indexAddrK at h
 obtain ⟨τ,ε,h1,h2,h,_⟩:=elemK_of h
 unfold indexAddrV
 rw [h1,Option.bind_some,h2,Option.bind_some]
 split at h
 case h_2=>cases h
 next k i=>
 split at h
 · next e hk=>
   split at h
   · next n sz off len=>
     obtain ⟨e1,h⟩:=okK_of h
     obtain ⟨m,hi,hm,h⟩:=h
     subst hi
     refine ⟨_,?_,‹K _›⟩
     simp only [hk]
     rw [if_pos ⟨Nat.eq_of_beq_eq_true e1,by omega,by omega⟩]
     rfl
   · next n sz len=>
     obtain ⟨e1,h⟩:=okK_of h
     obtain ⟨m,hi,hm,h⟩:=h
     subst hi
     refine ⟨_,?_,‹K _›⟩
     simp only [hk]
     rw [if_pos ⟨Nat.eq_of_beq_eq_true e1,by omega,by omega⟩]
     rfl
   · next sz rows cl=>
     obtain ⟨e1,h⟩:=okK_of h
     obtain ⟨m,row,hi,hm,h⟩:=h
     subst hi
     have hlt:=(List.getElem?_eq_some_iff.1 hm).1
     refine ⟨_,?_,‹K _›⟩
     simp only [hk]
     rw [if_pos ⟨Nat.eq_of_beq_eq_true e1,by omega,by omega⟩]
     simp [hm]
   · cases h
 · next m e hk=>
   split at h
   · next n sz a j=>
     obtain ⟨q,rfl,hm,h⟩:=h
     refine ⟨_,?_,h⟩
     simp only [hk]
     rw [if_pos ⟨by omega,by omega⟩]
     rfl
   · cases h
 · cases h
theorem indexK_of {t : TypeId} {x ix : V} {K : V → Prop} (h : indexK tab t x ix K) : ∃ v,indexV tab t x ix = some v ∧ K v:=by
 unfold indexK at h
 obtain ⟨τ,ε,h1,h2,h,_⟩:=elemK_of h
 unfold indexV
 rw [h1,Option.bind_some,h2,Option.bind_some]
 split at h
 case h_2=>cases h
 next k i=>
 split at h
 · next m e hk=>
   split at h
   · next xs=>
     obtain ⟨q,rfl,hm,h⟩:=h
     obtain ⟨v,hv,h⟩:=rowK_of h
     refine ⟨v,?_,valK_of h⟩
     simp only [hk]
     rw [if_pos ⟨by omega,by omega⟩]
     exact hv
   · cases h
 · cases h
theorem intOpt_of {o : Option V} {K : Option Int → Prop} (h : intOpt o K) : (o = none ∧ K none) ∨ ∃ k i,o = some (.c (.int k i)) ∧ K (some i):=by
 unfold intOpt at h
 split at h
 · exact .inl ⟨rfl,h⟩
 · exact .inr ⟨_,_,rfl,h⟩
 · cases h
theorem SlB_of {len : Nat} {lo hi : Option V} {lo' hi' : Option Int} {K : Nat → Nat → Prop} (hl : (lo = none ∧ lo' = none) ∨ ∃ k i,lo = some (.c (.int k i)) ∧ lo' = some i) (hh : (hi = none ∧ hi' = none) ∨ ∃ k i,hi = some (.c (.int k i)) ∧ hi' = some i)
 (h : SlB len lo' hi' K) : ∃ a b,bound len lo hi = some (a,b) ∧ K a b:=by
 obtain ⟨a,b,ha,hb,h1,h2,hk⟩:=h
 refine ⟨a,b,?_,hk⟩
 have hb1 : bound1 len len hi = some b:=by
  rcases hh with ⟨rfl,rfl⟩ | ⟨k,i,rfl,rfl⟩
  · simp only [isHi] at hb;simp [bound1,hb]
  · simp only [isHi] at hb;subst hb;simp [bound1,h2]
 have ha1 : bound1 b 0 lo = some a:=by
  rcases hl with ⟨rfl,rfl⟩ | ⟨k,i,rfl,rfl⟩
  · simp only [isLo] at ha;simp [bound1,ha]
  · simp only [isLo] at ha;subst ha;simp [bound1,h1]
 simp [bound,hb1,ha1]
theorem sliceK_of {t : TypeId} {x : V} {lo hi mx : Option V} {K : V → Prop} (h : sliceK tab t x lo hi mx K) : ∃ v,sliceV tab t x lo hi mx = some v ∧ K v:=by
 unfold sliceK at h
 obtain ⟨τ,ε,h1,h2,h,_⟩:=elemK_of h
 unfold sliceV
 rw [h1,Option.bind_some,h2,Option.bind_some]
 split at h
 case h_2=>cases h
 next e hk=>
 have split3 : ∀ {o : Option V} {K : Option Int → Prop},intOpt o K → ∃ o',((o = none ∧ o' = none) ∨ ∃ k i,o = some (.c (.int k i)) ∧ o' = some i) ∧ K o':=by
  intro o K h
  rcases intOpt_of h with ⟨h,hk⟩ | ⟨k,i,h,hk⟩
  · exact ⟨none,.inl ⟨h,rfl⟩,hk⟩
  · exact ⟨some i,.inr ⟨k,i,h,rfl⟩,hk⟩
 obtain ⟨lo',hlo,h⟩:=split3 h
 obtain ⟨hi',hhi,h⟩:=split3 h
 obtain ⟨mx',hmx,h⟩:=split3 h
 simp only [hk]
 split at h
 · have hm : mx = none:=by
    rcases hmx with ⟨h,_⟩ | ⟨_,_,_,h⟩
    · exact h
    · cases h
   subst hm
   split at h
   · obtain ⟨e1,h⟩:=okK_of h
     obtain ⟨a,b,hb,h⟩:=SlB_of hlo hhi h
     exact ⟨_,by dsimp only;rw [if_pos ⟨Nat.eq_of_beq_eq_true e1,rfl⟩,hb];rfl,h⟩
   · obtain ⟨e1,h⟩:=okK_of h
     obtain ⟨a,b,hb,h⟩:=SlB_of hlo hhi h
     exact ⟨_,by dsimp only;rw [if_pos ⟨Nat.eq_of_beq_eq_true e1,rfl⟩,hb];rfl,h⟩
   · obtain ⟨e1,h⟩:=okK_of h
     obtain ⟨a,b,hb,h⟩:=SlB_of hlo hhi h
     exact ⟨_,by dsimp only;rw [if_pos (Nat.eq_of_beq_eq_true e1),if_pos (show (none : Option V).isNone = true from rfl),hb];rfl,h⟩
   · obtain ⟨a,b,hb,h⟩:=SlB_of hlo hhi h
     exact ⟨_,by simp [hb],h⟩
   · cases h
 · next m=>
   obtain ⟨hs,h⟩:=h
   have hm : sameInt hi mx = true ∧ mx ≠ none:=by
    rcases hmx with ⟨_,h9⟩ | ⟨k,i,e9,h9⟩
    · cases h9
    · cases h9
      rcases hhi with ⟨_,h8⟩ | ⟨k',i',e8,h8⟩
      · rw [h8] at hs;cases hs
      · rw [h8] at hs;cases hs;subst e8;subst e9;exact ⟨by simp [sameInt],by simp⟩
   have hn : ¬ mx.isNone = true:=by simpa using hm.2
   split at h
   · obtain ⟨e1,h⟩:=okK_of h
     obtain ⟨a,b,hb,h⟩:=SlB_of hlo hhi h
     exact ⟨_,by dsimp only;rw [if_pos (Nat.eq_of_beq_eq_true e1),if_neg hn,if_pos hm.1,hb];rfl,h⟩
   · obtain ⟨a,b,hb,h⟩:=SlB_of hlo hhi h
     exact ⟨_,by simp [hb,hm.1],h⟩
   · cases h
end
end Go.Proofs.YtdjnjchpgccbiaaGreat.Abs
