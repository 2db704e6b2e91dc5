/- The abstract machine, part 17: what the reckoning says is so. -/
import Derived.Test.YtdjnjchpgccbiaaGreatC1
namespace Go.Proofs.YtdjnjchpgccbiaaGreat.Abs
set_option linter.unusedVariables false
set_option linter.unusedSimpArgs false
section
variable {P : Program} {tab : Tab}
theorem ZbK : ∀ {t : List V} {i : Nat} {v : V} {K : List V → Prop},ZpE t i v K → i < t.length ∧ ∃ t',K t' ∧ tAt t' = upd (tAt t) i v ∧ t'.length = t.length
 | [],_,_,_,h=>by cases h
 | x :: l,0,v,K,h=>by
  refine ⟨by simp,v :: l,h,?_,by simp⟩
  funext m
  cases m with
  | zero=>simp [tAt,upd]
  | succ m=>simp [tAt,upd]
 | x :: l,i + 1,v,K,h=>by
  obtain ⟨h1,t',h2,h3,h4⟩:=ZbK (t:=l) (K:=fun l'=>K (x :: l')) h
  refine ⟨by simpa using h1,x :: t',h2,?_,by simp [h4]⟩
  funext m
  cases m with
  | zero=>simp [tAt,upd]
  | succ m=>
   have:=congrFun h3 m
   simp only [tAt,upd,Nat.add_right_cancel_iff] at this ⊢
   exact this
theorem Zt {α : Type} : ∀ {l : List α} {K : List α → Prop},YC l K → K l
 | [],_,h=>h
 | x :: l,K,h=>Zt (l:=l) (K:=fun l'=>K (x :: l')) h
theorem Zlt {b : Nat} {K : Nat → Prop} (h : ZtM b K) : K (b + 1):=h
theorem Zig {α : Type} : ∀ {l : List α} {n : Nat} {K : Nat → Prop},Zty l n K → K (n + l.length)
 | [],_,_,h=>h
 | x :: l,n,K,h=>by
  have:=Zig (l:=l) (Zlt h)
  rw [List.length_cons,Nat.add_comm l.length 1,← Nat.add_assoc];exact this
theorem ZX : ∀ {h : List (Nat × B)} {n : Nat} {b : B} {K : List (Nat × B) → Prop},Zc2 h n b K → ∃ h',K h' ∧ hAt h' = upd (hAt h) n (some b)
 | [],n,b,K,h=>⟨_,h,by
  funext m
  simp only [hAt,upd]
  by_cases e : m = n
  · subst e;simp
  · have : Nat.beq m n = false:=by rw [Bool.eq_false_iff];simpa using e
    simp [e,this]⟩
 | p :: l,n,b,K,h=>by
  simp only [Zc2] at h
  split at h
  · next e=>
    have e:=Nat.eq_of_beq_eq_true e
    refine ⟨_,h,?_⟩
    funext m
    simp only [hAt,upd]
    by_cases e' : m = n
    · subst e';simp
    · have : Nat.beq m n = false:=by rw [Bool.eq_false_iff];simpa using e'
      rw [← e,this,if_neg e']
  · next e=>
    have e:=Nat.ne_of_beq_eq_false e
    obtain ⟨h',h1,h2⟩:=ZX (h:=l) (K:=fun l'=>K (p :: l')) h
    refine ⟨_,h1,?_⟩
    funext m
    have:=congrFun h2 m
    simp only [hAt,upd] at this ⊢
    split
    · next e2=>
      have e2:=Nat.eq_of_beq_eq_true e2
      rw [if_neg (by omega)]
    · exact this
theorem ZbR : ∀ {h : List (Nat × B)} {n : Nat} {K : List (Nat × B) → Prop},ZlQ h n K → ∃ h',K h' ∧ hAt h' = upd (hAt h) n none
 | [],n,K,h=>⟨_,h,by funext m;simp [hAt,upd]⟩
 | p :: l,n,K,h=>by
  simp only [ZlQ] at h
  split at h
  · next e=>
    have e:=Nat.eq_of_beq_eq_true e
    obtain ⟨h',h1,h2⟩:=ZbR (h:=l) h
    refine ⟨_,h1,?_⟩
    rw [h2]
    funext m
    simp only [hAt,upd]
    by_cases e' : m = n
    · subst e';simp
    · have : Nat.beq m p.1 = false:=by rw [Bool.eq_false_iff];simp;omega
      rw [if_neg e',if_neg e',this]
  · next e=>
    have e:=Nat.ne_of_beq_eq_false e
    obtain ⟨h',h1,h2⟩:=ZbR (h:=l) (K:=fun l'=>K (p :: l')) h
    refine ⟨_,h1,?_⟩
    funext m
    have:=congrFun h2 m
    simp only [hAt,upd] at this ⊢
    split
    · next e2=>
      have e2:=Nat.eq_of_beq_eq_true e2
      rw [if_neg (by omega)]
    · exact this
theorem ZD {t : List V} {x : Operand} {K : V → Prop} (h : evK t x K) : K (evS (tAt t) x):=by
 cases x <;> exact h
theorem Zfu {x : V} {K : V → Prop} (h : Zov x K) : K x:=by
 cases x with
 | c v=>cases v <;> exact h
 | _=>exact h
theorem Z9 : ∀ {l : List V} {K : List V → Prop},QO l K → K l
 | [],_,h=>h
 | x :: l,K,h=>Z9 (l:=l) (K:=fun l=>K (x :: l)) (Zfu (K:=fun x=>QO l fun l=>K (x :: l)) h)
theorem ZS {x : V} {K : V → Prop} (h : ZbI x K) : K x:=by
 cases x with
 | c v=>cases v <;> exact h
 | agg xs=>exact Z9 (K:=fun xs=>K (.agg xs)) h
 | tup xs=>exact Z9 (K:=fun xs=>K (.tup xs)) h
 | fn f a b=>exact Z9 (K:=fun b=>K (.fn f a b)) (Z9 (K:=fun a=>QO b fun b=>K (.fn f a b)) h)
 | ifc t x=>exact Zfu (K:=fun x=>K (.ifc t x)) h
 | _=>exact h
theorem Zgc : ∀ {l : List V} {K : List V → Prop},Zl9 l K → K l
 | [],_,h=>h
 | x :: l,K,h=>Zgc (l:=l) (K:=fun l=>K (x :: l)) (ZS (K:=fun x=>Zl9 l fun l=>K (x :: l)) h)
theorem QL {α : Type} {o : Option α} {K : α → Prop} (h : ZkD o K) : ∃ x,o = some x ∧ K x:=by
 cases o with
 | none=>cases h
 | some x=>exact ⟨x,rfl,h⟩
theorem Zd {c : Bool} {K : Prop} (h : okK c K) : c = true ∧ K:=by
 cases c with
 | false=>cases h
 | true=>exact ⟨rfl,h⟩
theorem Zeq {t : List V} : ∀ {l : List Operand} {K : List V → Prop},ZpP t l K → K (l.map (evS (tAt t)))
 | [],_,h=>h
 | x :: l,K,h=>Zeq (l:=l) (K:=fun l=>K (_ :: l)) (ZS (K:=fun x=>ZpP t l fun l=>K (x :: l)) (ZD (K:=fun x=>ZbI x fun x=>ZpP t l fun l=>K (x :: l)) h))
theorem Zh6 {t : List V} : ∀ {l : List (Nat × Operand)} {K : List (Nat × V) → Prop},ZrJ t l K → K (l.map fun p=>(p.1,evS (tAt t) p.2))
 | [],_,h=>h
 | p :: l,K,h=>Zh6 (l:=l) (K:=fun l=>K (_ :: l)) (ZS (K:=fun x=>ZrJ t l fun l=>K ((p.1,x) :: l)) (ZD (K:=fun x=>ZbI x fun x=>ZrJ t l fun l=>K ((p.1,x) :: l)) h))
theorem Zej {x : V} {K : List V → Prop} (h : ZeN x K) : ∃ xs,x.cells = some xs ∧ K xs:=by
 cases x with
 | agg xs=>exact ⟨xs,rfl,h⟩
 | un=>cases h
 | tup xs=>cases h
 | c v=>
  simp only [ZeN] at h
  split at h
  · next e=>exact ⟨_,by simp [V.cells,V.leaf,e],h⟩
  · cases h
 | _=>exact ⟨_,rfl,h⟩
theorem Zqu {op : BinOp} {k : IntKind} {a b : Int} {K : V → Prop} (h : Zum op k a b K) : ∃ v,Zbx op k a b = some v ∧ K v:=by
 cases op <;> simp only [Zum] at h
 all_goals first
  | cases h;done
  | exact ⟨_,rfl,h⟩
  | (obtain ⟨h⟩:=h;exact ⟨_,rfl,h⟩)
  | (obtain ⟨h0,h1⟩:=h;obtain ⟨h1⟩:=h1;exact ⟨_,by simp only [Zbx];rw [if_neg h0],h1⟩)
  | (obtain ⟨h0,h1⟩:=h;exact ⟨_,by simp only [Zbx];rw [if_neg h0],h1⟩)
theorem ZgK {op : BinOp} {k : IntKind} {a b : Int} {K : V → Prop} (h : Zjq op k a b K) : ∃ v,Zbo op k a b = some v ∧ K v:=by
 cases op <;> simp only [Zjq] at h
 all_goals first
  | cases h;done
  | (obtain ⟨h0,h1⟩:=h;obtain ⟨h1⟩:=h1;exact ⟨_,by unfold Zbo;rw [if_neg h0],h1⟩)
  | (obtain ⟨h0,h1⟩:=h;exact ⟨_,by unfold Zbo;rw [if_neg h0],h1⟩)
theorem Zgj {k k' : IntKind} {K : Prop} (h : ZkR k k' K) : k = k' ∧ K:=by
 unfold ZkR at h
 split at h
 · exact ⟨rfl,h⟩
 · exact ⟨h.1,h.2⟩
theorem ZmY {t : TypeId} {op : BinOp} {y : Operand} {vx vy : V} {K : V → Prop} (h : Zmi ((tab t).map Ty.kind) op y vx vy K) (hp : Hp) : ∃ v,Zbv tab op t y vx vy hp = some (v,hp) ∧ K v:=by
 unfold Zmi at h
 split at h
 · next hn=>
   split at h
   · obtain ⟨z,hz,hk⟩:=QL h
     exact ⟨_,by unfold Zbv;rw [hn];simp [hz],hk⟩
   · obtain ⟨z,hz,hk⟩:=QL h
     exact ⟨_,by unfold Zbv;rw [hn];simp [hz],hk⟩
   · cases h
 · next hn=>
   have key : ∀ v,ZqM ((tab t).map Ty.kind) op vx vy = some v → Zbv tab op t y vx vy hp = some (v,hp):=by
    intro v hv
    unfold Zbv
    rw [hn]
    cases op <;> simp [hv]
   split at h
   · next k a=>
     split at h
     · next k' b=>
       split at h
       · obtain ⟨v,hv,hk⟩:=ZgK h;exact ⟨v,key v (by simpa [ZqM] using hv),hk⟩
       · obtain ⟨v,hv,hk⟩:=ZgK h;exact ⟨v,key v (by simpa [ZqM] using hv),hk⟩
       · next h1 h2=>
         obtain ⟨e,h'⟩:=Zgj h
         subst e
         obtain ⟨v,hv,hk⟩:=Zqu h'
         refine ⟨v,key v ?_,hk⟩
         unfold ZqM
         split
         · next e1 e2=>cases e1;cases e2;simp only [if_true];cases op <;> first | exact absurd rfl h1 | exact absurd rfl h2 | exact hv
         · next e1 e2=>cases e1
         · next h3 _=>exact absurd rfl (h3 _ _ _ _ rfl)
     · cases h
   · next a=>
     split at h
     · next b=>
       split at h
       · next htk=>exact ⟨_,key _ (by rw [htk];rfl),h⟩
       · next htk=>exact ⟨_,key _ (by rw [htk];rfl),h⟩
       · cases h
     · cases h
   · cases h
theorem Zsm {op : UnOp} {x : V} {K : V → Prop} (h : unK op x K) : ∃ v,unV op x = some v ∧ K v:=by
 unfold unK at h
 split at h
 · obtain ⟨h⟩:=h;exact ⟨_,rfl,h⟩
 · split at h
   · exact ⟨_,rfl,h⟩
   · exact ⟨_,rfl,h⟩
 · cases h
theorem Zn6 {src dst : TypeId} {x : V} {K : V → Prop} (h : Zro tab src dst x K) : (tab src).isSome = true ∧ ∃ v,ZhY tab dst x = some v ∧ K v:=by
 unfold Zro at h
 split at h
 · next h1 h2=>obtain ⟨h⟩:=h;exact ⟨by rw [h1];rfl,_,by unfold ZhY;rw [h2],h⟩
 · cases h
theorem ZdD {τ : Ty} {row : List V} {j : Nat} {K : V → Prop} (h : Zqs τ row j K) : ∃ v,YM τ row j = some v ∧ K v:=by
 unfold Zqs at h
 split at h
 · next ha=>
   split at h
   · next hb=>
     have hb:=Nat.le_of_ble_eq_true hb
     exact ⟨_,by unfold YM;rw [if_pos ha,if_pos hb],Zgc (K:=fun xs=>K (.agg xs)) h⟩
   · cases h
 · next ha=>
   obtain ⟨v,hv,hk⟩:=QL h
   exact ⟨v,by unfold YM;rw [ha];simpa using hv,hk⟩
theorem Zjw {h : List (Nat × B)} {t : TypeId} {a : V} {K : V → Prop} (hk : Zln tab h t a K) : ∃ v,ZdL tab (hAt h) t a = some v ∧ K v:=by
 unfold Zln at hk
 split at hk
 case h_2=>cases hk
 next τ hτ=>
 unfold ZdL
 rw [hτ,Option.bind_some]
 split at hk
 · next n sz i j=>
   dsimp only
   split at hk
   · next sz' r hr=>
     split at hk
     case h_2=>cases hk
     next e=>
     have e:=Nat.eq_of_beq_eq_true e
     obtain ⟨row,hrow,hk⟩:=QL hk
     obtain ⟨v,hv,hk⟩:=ZdD hk
     exact ⟨v,by rw [hr];dsimp only;rw [if_pos e,hrow,Option.bind_some,hv],ZS hk⟩
   · next sz' r hr=>
     split at hk
     case h_2=>cases hk
     next e=>
     have e:=Nat.eq_of_beq_eq_true e
     obtain ⟨row,hrow,hk⟩:=hk
     obtain ⟨v,hv,hk⟩:=ZdD hk
     exact ⟨v,by rw [hr];dsimp only;rw [if_pos e,hrow,Option.bind_some,hv],ZS hk⟩
   · cases hk
 · next row j=>
   obtain ⟨v,hv,hk⟩:=ZdD hk
   exact ⟨v,hv,ZS hk⟩
 · cases hk
theorem Zng {h : List (Nat × B)} {t : TypeId} {a x : V} {K : List (Nat × B) → Prop} (hk : Zhv tab h t a x K) : ∃ h',ZaN tab (hAt h) t a x = some (hAt h') ∧ K h':=by
 unfold Zhv at hk
 split at hk
 case h_2=>cases hk
 next τ hτ=>
 unfold ZaN
 rw [hτ,Option.bind_some]
 split at hk
 · next n sz i j=>
   dsimp only
   split at hk
   · next sz' r hr=>
     obtain ⟨e,hk⟩:=Zd hk
     have e:=Nat.eq_of_beq_eq_true e
     obtain ⟨row,hrow,hk⟩:=QL hk
     obtain ⟨xs,hxs,hk⟩:=Zej hk
     obtain ⟨e1,hk⟩:=Zd hk
     obtain ⟨e2,hk⟩:=Zd hk
     obtain ⟨e3,hk⟩:=Zd hk
     have hk:=Zt hk
     have hk:=Zt hk
     obtain ⟨h',hk,hh⟩:=ZX hk
     refine ⟨h',?_,hk⟩
     rw [hr];dsimp only
     rw [if_pos e,hrow,Option.bind_some,hxs,Option.bind_some,if_pos ⟨Nat.eq_of_beq_eq_true e1,Nat.le_of_ble_eq_true e2,e3⟩,hh]
   · next sz' r hr=>
     obtain ⟨e,hk⟩:=Zd hk
     have e:=Nat.eq_of_beq_eq_true e
     obtain ⟨row,hrow,hk⟩:=hk
     obtain ⟨xs,hxs,hk⟩:=Zej hk
     obtain ⟨ds,hds,hk⟩:=QL hk
     obtain ⟨e1,hk⟩:=Zd hk
     obtain ⟨e2,hk⟩:=Zd hk
     have hk:=Zt hk
     obtain ⟨h',hk,hh⟩:=ZX hk
     refine ⟨h',?_,hk⟩
     rw [hr];dsimp only
     rw [if_pos e,hrow,Option.bind_some,hxs,Option.bind_some,hds,Option.bind_some,if_pos ⟨Nat.eq_of_beq_eq_true e1,Nat.le_of_ble_eq_true e2⟩,hh]
   · cases hk
 · cases hk
theorem ZgP {s : TypeId} {f : Nat} {K : Nat → Ty → Prop} (h : Zjs tab s f K) : ∃ p,ZeU tab s f = some p ∧ K p.1 p.2:=by
 unfold Zjs at h
 split at h
 case h_2=>cases h
 next τ hτ=>
 split at h
 case h_2=>cases h
 next fs hfs=>
 split at h
 case h_2=>cases h
 next p hp=>
 split at h
 case h_2=>cases h
 next τ' hτ'=>
 exact ⟨(p.1,τ'),by unfold ZeU;rw [hτ,Option.bind_some];simp [hfs,hp,hτ'],h⟩
theorem ZfG {s : TypeId} {x : V} {f : Nat} {K : V → Prop} (h : ZcV tab s x f K) : ∃ v,Qx tab s x f = some v ∧ K v:=by
 unfold ZcV at h
 obtain ⟨p,hp,h⟩:=ZgP h
 unfold Qx
 rw [hp,Option.bind_some]
 split at h
 case h_1=>cases h
 next e=>
 rw [if_neg (Nat.ne_of_beq_eq_false e)]
 split at h
 · exact ⟨_,rfl,h⟩
 · exact ⟨_,rfl,h⟩
 · cases h
theorem ZgW {s : TypeId} {x : V} {f : Nat} {K : V → Prop} (h : Zeb tab s x f K) : ∃ v,Zal tab s x f = some v ∧ K v:=by
 unfold Zeb at h
 obtain ⟨p,hp,h⟩:=ZgP h
 unfold Zal
 rw [hp,Option.bind_some]
 split at h
 · obtain ⟨v,hv,h⟩:=ZdD h
   exact ⟨v,hv,ZS h⟩
 · cases h
theorem Zdo {t : TypeId} {K : TK → Ty → Prop} (h : ZjY tab t K) : ∃ τ ε,tab t = some τ ∧ ZeF tab t = some ε ∧ K τ.kind ε ∧ (∀ e,τ.kind = .slice e → Zy tab t = some ε):=by
 unfold ZjY at h
 split at h
 case h_2=>cases h
 next τ hτ=>
 split at h
 · next e hk=>
   split at h
   case h_2=>cases h
   next ε hε=>exact ⟨τ,ε,hτ,by simp [ZeF,hτ,hk,hε],by rw [hk];exact h,fun e' he=>by simp [Zy,hτ,hk,hε]⟩
 · next n e hk=>
   split at h
   case h_2=>cases h
   next ε hε=>exact ⟨τ,ε,hτ,by simp [ZeF,hτ,hk,hε],by rw [hk];exact h,fun e' he=>by rw [hk] at he;cases he⟩
 · cases h
theorem ZfK {t : TypeId} {x ix : V} {K : V → Prop} (h : ZcZ tab t x ix K) : ∃ v,Qw tab t x ix = some v ∧ K v:=by
 unfold ZcZ at h
 obtain ⟨τ,ε,h1,h2,h,_⟩:=Zdo h
 unfold Qw
 rw [h1,Option.bind_some,h2,Option.bind_some]
 split at h
 case h_2=>cases h
 next k i=>
 split at h
 · next e hk=>
   split at h
   · next n sz off len=>
     obtain ⟨e1,h⟩:=Zd h
     obtain ⟨m,hi,hm,h⟩:=h
     subst hi
     refine ⟨_,?_,‹K _›⟩
     simp only [hk]
     rw [if_pos ⟨Nat.eq_of_beq_eq_true e1,by omega,by omega⟩]
     rfl
   · next n sz len=>
     obtain ⟨e1,h⟩:=Zd h
     obtain ⟨m,hi,hm,h⟩:=h
     subst hi
     refine ⟨_,?_,‹K _›⟩
     simp only [hk]
     rw [if_pos ⟨Nat.eq_of_beq_eq_true e1,by omega,by omega⟩]
     rfl
   · next sz rows cl=>
     obtain ⟨e1,h⟩:=Zd h
     obtain ⟨m,row,hi,hm,h⟩:=h
     subst hi
     have hlt:=(List.getElem?_eq_some_iff.1 hm).1
     refine ⟨_,?_,‹K _›⟩
     simp only [hk]
     rw [if_pos ⟨Nat.eq_of_beq_eq_true e1,by omega,by omega⟩]
     simp [hm]
   · cases h
 · next m e hk=>
   split at h
   · next n sz a j=>
     obtain ⟨q,rfl,hm,h⟩:=h
     refine ⟨_,?_,h⟩
     simp only [hk]
     rw [if_pos ⟨by omega,by omega⟩]
     rfl
   · cases h
 · cases h
theorem ZlO {t : TypeId} {x ix : V} {K : V → Prop} (h : Zno tab t x ix K) : ∃ v,Ze7 tab t x ix = some v ∧ K v:=by
 unfold Zno at h
 obtain ⟨τ,ε,h1,h2,h,_⟩:=Zdo h
 unfold Ze7
 rw [h1,Option.bind_some,h2,Option.bind_some]
 split at h
 case h_2=>cases h
 next k i=>
 split at h
 · next m e hk=>
   split at h
   · next xs=>
     obtain ⟨q,rfl,hm,h⟩:=h
     obtain ⟨v,hv,h⟩:=ZdD h
     refine ⟨v,?_,ZS h⟩
     simp only [hk]
     rw [if_pos ⟨by omega,by omega⟩]
     exact hv
   · cases h
 · cases h
theorem Zlm {o : Option V} {K : Option Int → Prop} (h : Ze6 o K) : (o = none ∧ K none) ∨ ∃ k i,o = some (.c (.int k i)) ∧ K (some i):=by
 unfold Ze6 at h
 split at h
 · exact .inl ⟨rfl,h⟩
 · exact .inr ⟨_,_,rfl,h⟩
 · cases h
theorem Zfa {len : Nat} {lo hi : Option V} {lo' hi' : Option Int} {K : Nat → Nat → Prop} (hl : (lo = none ∧ lo' = none) ∨ ∃ k i,lo = some (.c (.int k i)) ∧ lo' = some i) (hh : (hi = none ∧ hi' = none) ∨ ∃ k i,hi = some (.c (.int k i)) ∧ hi' = some i)
 (h : SlB len lo' hi' K) : ∃ a b,bound len lo hi = some (a,b) ∧ K a b:=by
 obtain ⟨a,b,ha,hb,h1,h2,hk⟩:=h
 refine ⟨a,b,?_,hk⟩
 have hb1 : ZaJ len len hi = some b:=by
  rcases hh with ⟨rfl,rfl⟩ | ⟨k,i,rfl,rfl⟩
  · simp only [Zkw] at hb;simp [ZaJ,hb]
  · simp only [Zkw] at hb;subst hb;simp [ZaJ,h2]
 have ha1 : ZaJ b 0 lo = some a:=by
  rcases hl with ⟨rfl,rfl⟩ | ⟨k,i,rfl,rfl⟩
  · simp only [ZtI] at ha;simp [ZaJ,ha]
  · simp only [ZtI] at ha;subst ha;simp [ZaJ,h1]
 simp [bound,hb1,ha1]
theorem ZlZ {t : TypeId} {x : V} {lo hi mx : Option V} {K : V → Prop} (h : ZmE tab t x lo hi mx K) : ∃ v,Zfr tab t x lo hi mx = some v ∧ K v:=by
 unfold ZmE at h
 obtain ⟨τ,ε,h1,h2,h,_⟩:=Zdo h
 unfold Zfr
 rw [h1,Option.bind_some,h2,Option.bind_some]
 split at h
 case h_2=>cases h
 next e hk=>
 have split3 : ∀ {o : Option V} {K : Option Int → Prop},Ze6 o K → ∃ o',((o = none ∧ o' = none) ∨ ∃ k i,o = some (.c (.int k i)) ∧ o' = some i) ∧ K o':=by
  intro o K h
  rcases Zlm h with ⟨h,hk⟩ | ⟨k,i,h,hk⟩
  · exact ⟨none,.inl ⟨h,rfl⟩,hk⟩
  · exact ⟨some i,.inr ⟨k,i,h,rfl⟩,hk⟩
 obtain ⟨lo',hlo,h⟩:=split3 h
 obtain ⟨hi',hhi,h⟩:=split3 h
 obtain ⟨mx',hmx,h⟩:=split3 h
 simp only [hk]
 split at h
 · have hm : mx = none:=by
    rcases hmx with ⟨h,_⟩ | ⟨_,_,_,h⟩
    · exact h
    · cases h
   subst hm
   split at h
   · obtain ⟨e1,h⟩:=Zd h
     obtain ⟨a,b,hb,h⟩:=Zfa hlo hhi h
     exact ⟨_,by dsimp only;rw [if_pos ⟨Nat.eq_of_beq_eq_true e1,rfl⟩,hb];rfl,h⟩
   · obtain ⟨e1,h⟩:=Zd h
     obtain ⟨a,b,hb,h⟩:=Zfa hlo hhi h
     exact ⟨_,by dsimp only;rw [if_pos ⟨Nat.eq_of_beq_eq_true e1,rfl⟩,hb];rfl,h⟩
   · obtain ⟨e1,h⟩:=Zd h
     obtain ⟨a,b,hb,h⟩:=Zfa hlo hhi h
     exact ⟨_,by dsimp only;rw [if_pos (Nat.eq_of_beq_eq_true e1),if_pos (show (none : Option V).isNone = true from rfl),hb];rfl,h⟩
   · obtain ⟨a,b,hb,h⟩:=Zfa hlo hhi h
     exact ⟨_,by simp [hb],h⟩
   · cases h
 · next m=>
   obtain ⟨hs,h⟩:=h
   have hm : ZbQ hi mx = true ∧ mx ≠ none:=by
    rcases hmx with ⟨_,h9⟩ | ⟨k,i,e9,h9⟩
    · cases h9
    · cases h9
      rcases hhi with ⟨_,h8⟩ | ⟨k',i',e8,h8⟩
      · rw [h8] at hs;cases hs
      · rw [h8] at hs;cases hs;subst e8;subst e9;exact ⟨by simp [ZbQ],by simp⟩
   have hn : ¬ mx.isNone = true:=by simpa using hm.2
   split at h
   · obtain ⟨e1,h⟩:=Zd h
     obtain ⟨a,b,hb,h⟩:=Zfa hlo hhi h
     exact ⟨_,by dsimp only;rw [if_pos (Nat.eq_of_beq_eq_true e1),if_neg hn,if_pos hm.1,hb];rfl,h⟩
   · obtain ⟨a,b,hb,h⟩:=Zfa hlo hhi h
     exact ⟨_,by simp [hb,hm.1],h⟩
   · cases h
end
end Go.Proofs.YtdjnjchpgccbiaaGreat.Abs
