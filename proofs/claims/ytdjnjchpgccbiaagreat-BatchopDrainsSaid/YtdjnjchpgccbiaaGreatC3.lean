/- The abstract machine, part 18: append, regions, code: what the reckoning says is so. -/
import Derived.Test.YtdjnjchpgccbiaaGreatC2
namespace Go.Proofs.YtdjnjchpgccbiaaGreat.Abs
set_option linter.unusedVariables false
set_option linter.unusedSimpArgs false
section
variable {P : Program} {tab : Tab}
theorem dRowsK_of {h : List (Nat × B)} {sz : Nat} {x : V} {K : List (List D) → Prop} {N : Prop} (hk : dRowsK h sz x K N) : (∃ src,dRows (hAt h) sz x = some src ∧ K src) ∨ (dRows (hAt h) sz x = none ∧ N):=by
 unfold dRowsK at hk
 split at hk
 · replace hk:=okK_of hk
   obtain ⟨e,hk⟩:=hk
   exact .inl ⟨_,by simp only [dRows];rw [if_pos (Nat.eq_of_beq_eq_true e)],hk⟩
 · exact .inl ⟨_,rfl,hk⟩
 · next n sz' len=>
   replace hk:=okK_of hk
   obtain ⟨e,hk⟩:=hk
   have e:=Nat.eq_of_beq_eq_true e
   split at hk
   · next s r hr=>
     replace hk:=okK_of hk
     obtain ⟨e2,hk⟩:=hk
     have e2:=Nat.eq_of_beq_eq_true e2
     obtain ⟨hl,hk⟩:=hk
     exact .inl ⟨_,by simp only [dRows,datOf,hr];rw [if_pos e,if_pos (e2.trans e),Option.bind_some,if_pos hl],hk⟩
   · cases hk
 · next n sz' off len=>
   replace hk:=okK_of hk
   obtain ⟨e,hk⟩:=hk
   have e:=Nat.eq_of_beq_eq_true e
   split at hk
   · next s r hr=>
     replace hk:=okK_of hk
     obtain ⟨e2,hk⟩:=hk
     have e2:=Nat.eq_of_beq_eq_true e2
     obtain ⟨hl,hk⟩:=hk
     exact .inl ⟨_,by simp only [dRows,datOf,hr];rw [if_pos e,if_pos (e2.trans e),Option.bind_some,if_pos hl],hk⟩
   · next hne=>
     refine .inr ⟨?_,hk⟩
     simp only [dRows]
     rw [if_pos e]
     unfold datOf
     split
     · next s r hr=>exact absurd hr (hne s r)
     · rfl
 · cases hk
theorem appendK_of {nm : Nat} {h : List (Nat × B)} {t : TypeId} {s x : V} {K : V → List (Nat × B) → Prop} (hk : appendK tab nm h t s x K) : ∃ v h',appendV tab nm (hAt h) t s x = some (v,hAt h') ∧ K v h':=by
 unfold appendK at hk
 replace hk:=elemK_of hk
 obtain ⟨τ,ε,h1,h2,hk,hsl⟩:=hk
 split at hk
 case h_2=>cases hk
 next e he=>
 have hse:=hsl e he
 replace hk:=okK_of hk
 obtain ⟨hb,hk⟩:=hk
 have hb:=Nat.le_of_ble_eq_true hb
 unfold appendV
 rw [hse,Option.bind_some,if_pos hb]
 replace hk:=dRowsK_of hk
 rcases hk with ⟨src,hsrc,hk⟩ | ⟨hnone,hk⟩
 · rw [hsrc]
   dsimp only
   split at hk
   · obtain ⟨hc,hk⟩:=hk
     replace hk:=hSet_of hk
     obtain ⟨h',hk,hh⟩:=hk
     exact ⟨_,h',by rw [if_pos hc,hh];rfl,hk⟩
   · replace hk:=okK_of hk
     obtain ⟨e1,hk⟩:=hk
     obtain ⟨hc,hk⟩:=hk
     replace hk:=hSet_of hk
     obtain ⟨h',hk,hh⟩:=hk
     exact ⟨_,h',by dsimp only;rw [if_pos ⟨Nat.eq_of_beq_eq_true e1,hc⟩,hh],hk⟩
   · next n sz len=>
     replace hk:=okK_of hk
     obtain ⟨e1,hk⟩:=hk
     have e1:=Nat.eq_of_beq_eq_true e1
     split at hk
     case h_2=>cases hk
     next s' r hr=>
     replace hk:=okK_of hk
     obtain ⟨e2,hk⟩:=hk
     have e2:=Nat.eq_of_beq_eq_true e2
     obtain ⟨hc,hk⟩:=hk
     replace hk:=hDel_of hk
     obtain ⟨h1',hk,hh1⟩:=hk
     replace hk:=hSet_of hk
     obtain ⟨h',hk,hh⟩:=hk
     exact ⟨_,h',by dsimp only;rw [show datOf (hAt h) n sz = some r by simp only [datOf,hr];rw [if_pos e2],Option.bind_some,if_pos ⟨e1,hc⟩,hh,hh1],hk⟩
   · next n sz off len=>
     replace hk:=okK_of hk
     obtain ⟨e1,hk⟩:=hk
     have e1:=Nat.eq_of_beq_eq_true e1
     split at hk
     case h_2=>cases hk
     next s' r hr=>
     replace hk:=okK_of hk
     obtain ⟨e2,hk⟩:=hk
     have e2:=Nat.eq_of_beq_eq_true e2
     obtain ⟨hc,hk⟩:=hk
     replace hk:=hDel_of hk
     obtain ⟨h1',hk,hh1⟩:=hk
     replace hk:=hSet_of hk
     obtain ⟨h',hk,hh⟩:=hk
     exact ⟨_,h',by dsimp only;rw [show datOf (hAt h) n sz = some r by simp only [datOf,hr];rw [if_pos e2],Option.bind_some,if_pos ⟨e1,hc⟩,hh,hh1],hk⟩
   · cases hk
 · rw [hnone]
   dsimp only
   split at hk
   case h_2=>cases hk
   next n' sz' off' len'=>
   split at hk
   case h_2=>cases hk
   next s'' r' hr'=>
   replace hk:=okK_of hk
   obtain ⟨e0,hk⟩:=hk
   have e0:=Nat.eq_of_beq_eq_true e0
   replace hk:=okK_of hk
   obtain ⟨e1,hk⟩:=hk
   have e1:=Nat.le_of_ble_eq_true e1
   replace hk:=listK_of hk
   replace hk:=okK_of hk
   obtain ⟨e2,hk⟩:=hk
   have hrf : rowsFrom (hAt h) (.sl n' sz' off' len') = some ((r'.drop off').take len'):=by
    simp only [rowsFrom,rowsOf,hr']
    rw [if_pos e0,Option.bind_some,if_pos e1]
   have hall : ((r'.drop off').take len').all (fun row=>decide (row.length = ε.size) && row.all V.leaf) = true:=by
    rw [List.all_eq_true] at e2 ⊢
    intro row hrow
    have:=e2 row hrow
    simp only [Bool.and_eq_true,decide_eq_true_eq] at this ⊢
    exact ⟨Nat.eq_of_beq_eq_true this.1,this.2⟩
   rw [hrf,Option.bind_some,if_pos hall]
   split at hk
   · obtain ⟨hc,hk⟩:=hk
     replace hk:=hSet_of hk
     obtain ⟨h',hk,hh⟩:=hk
     replace hk:=lenK_of hk
     rw [Nat.zero_add] at hk
     exact ⟨_,h',by rw [if_pos hc,hh];rfl,hk⟩
   · next n sz off len=>
     replace hk:=okK_of hk
     obtain ⟨e3,hk⟩:=hk
     have e3:=Nat.eq_of_beq_eq_true e3
     split at hk
     case h_2=>cases hk
     next s' r hr=>
     replace hk:=okK_of hk
     obtain ⟨e4,hk⟩:=hk
     have e4:=Nat.eq_of_beq_eq_true e4
     obtain ⟨hc,hk⟩:=hk
     replace hk:=hDel_of hk
     obtain ⟨h1',hk,hh1⟩:=hk
     replace hk:=listK_of hk
     replace hk:=hSet_of hk
     obtain ⟨h',hk,hh⟩:=hk
     exact ⟨_,h',by dsimp only;rw [show rowsOf (hAt h) n sz = some r by simp only [rowsOf,hr];rw [if_pos e4],Option.bind_some,if_pos ⟨e3,hc⟩,hh,hh1],hk⟩
   · cases hk
theorem lenVK_of {h : List (Nat × B)} {t : TypeId} {x : V} {K : V → Prop} (hk : lenVK tab h t x K) : ∃ n : Nat,((tab t).bind fun τ=>lenV (hAt h) τ.kind x) = some n ∧ K (V.int (n : Int)):=by
 unfold lenVK at hk
 split at hk
 · next e ht=>
   rw [Option.map_eq_some_iff] at ht
   obtain ⟨τ,hτ,hkd⟩:=ht
   rw [hτ,Option.bind_some,hkd]
   split at hk
   · exact ⟨_,rfl,hk⟩
   · exact ⟨_,rfl,hk⟩
   · exact ⟨_,rfl,hk⟩
   · exact ⟨0,rfl,hk⟩
   · cases hk
 · next k e ht=>
   rw [Option.map_eq_some_iff] at ht
   obtain ⟨τ,hτ,hkd⟩:=ht
   rw [hτ,Option.bind_some,hkd]
   split at hk
   · split at hk
     · next es hes=>exact ⟨_,by simp only [lenV,hes],hk⟩
     · cases hk
   · cases hk
 · cases hk
theorem minK_of {mn : Bool} {x y : V} {K : V → Prop} (hk : minK mn x y K) : ∃ v,minV (fun b a=>if mn = true then decide (b < a) else decide (a < b)) x y = some v ∧ K v:=by
 unfold minK at hk
 split at hk
 · next k a k' b=>
   replace hk:=sameK_of hk
   obtain ⟨e,hk⟩:=hk
   subst e
   cases mn with
   | true=>exact ⟨_,by simp [minV],hk⟩
   | false=>exact ⟨_,by simp [minV],hk⟩
 · cases hk
theorem builtK_of {nm : Nat} {t : List V} {h : List (Nat × B)} {f : Builtin} {args : List Operand} {tys : List TypeId} {K : V → List (Nat × B) → Prop} {c : Call} (hc : c.callee = .builtin f) (ha : c.args.toList = args) (hty : c.argTypes.toList = tys) (hk : builtK tab nm t h f args tys K) :
 ∃ v h',callV tab nm (evS (tAt t)) (hAt h) c = some (v,hAt h') ∧ K v h':=by
 unfold builtK at hk
 unfold callV
 rw [hc,ha,hty]
 split at hk
 · replace hk:=evK_of hk
   replace hk:=lenVK_of hk
   obtain ⟨n,hn,hk⟩:=hk
   exact ⟨_,h,by dsimp only;rw [hn];rfl,hk⟩
 · replace hk:=okK_of hk
   obtain ⟨e,hk⟩:=hk
   replace hk:=evK_of hk
   replace hk:=evK_of hk
   replace hk:=appendK_of hk
   obtain ⟨v,h',hv,hk⟩:=hk
   exact ⟨v,h',by dsimp only;rw [if_pos e,hv],hk⟩
 · replace hk:=evK_of hk
   replace hk:=evK_of hk
   replace hk:=minK_of hk
   obtain ⟨v,hv,hk⟩:=hk
   exact ⟨v,h,by dsimp only;simp only [if_true] at hv;rw [hv];rfl,hk⟩
 · replace hk:=evK_of hk
   replace hk:=evK_of hk
   replace hk:=minK_of hk
   obtain ⟨v,hv,hk⟩:=hk
   exact ⟨v,h,by dsimp only;simp only [Bool.false_eq_true,if_false] at hv;rw [hv];rfl,hk⟩
 · cases hk
theorem optEv_of {t : List V} {o : Option Operand} {K : Option V → Prop} (h : optEv t o K) : K (o.map (evS (tAt t))):=by
 cases o with
 | none=>exact h
 | some x=>exact evK_of (K:=fun x=>K (some x)) h
theorem opK_of {nm : Nat} {t : List V} {h : List (Nat × B)} {op : Op} {K : V → List (Nat × B) → Prop} (hk : opK tab nm t h op K) : ∃ v h',sop tab nm (evS (tAt t)) (hAt h) op = some (v,hAt h') ∧ K v h':=by
 cases op with
 | move x=>exact ⟨_,h,rfl,valK_of (K:=fun v=>K v h) (evK_of (K:=fun v=>valK v fun v=>K v h) hk)⟩
 | assign x=>exact ⟨_,h,rfl,valK_of (K:=fun v=>K v h) (evK_of (K:=fun v=>valK v fun v=>K v h) hk)⟩
 | alloc ty=>
  replace hk:=optK_of hk
  obtain ⟨τ,hτ,hk⟩:=hk
  replace hk:=valsK_of hk
  replace hk:=hSet_of hk
  obtain ⟨h',hk,hh⟩:=hk
  exact ⟨_,h',by rw [sop_alloc,hτ,hh];rfl,hk⟩
 | box ty x=>
  replace hk:=evK_of (K:=fun v=>cellsK v _) hk
  replace hk:=cellsK_of hk
  obtain ⟨xs,hxs,hk⟩:=hk
  replace hk:=lenK_of hk
  rw [Nat.zero_add] at hk
  replace hk:=hSet_of hk
  obtain ⟨h',hk,hh⟩:=hk
  exact ⟨_,h',by rw [sop_box,hxs,hh];rfl,hk⟩
 | build ty parts=>
  replace hk:=evpK_of hk
  replace hk:=optK_of hk
  obtain ⟨v,hv,hk⟩:=hk
  exact ⟨v,h,by rw [sop_build,hv];rfl,valK_of (K:=fun v=>K v h) hk⟩
 | buildSlice ty len parts=>
  replace hk:=evpK_of hk
  replace hk:=optK_of hk
  obtain ⟨ε,hε,hk⟩:=hk
  replace hk:=okK_of hk
  obtain ⟨e,hk⟩:=hk
  have e:=Nat.le_of_ble_eq_true e
  replace hk:=optK_of hk
  obtain ⟨cs,hcs,hk⟩:=hk
  rw [sop_buildSlice]
  unfold buildSliceV
  rw [hε,Option.bind_some,if_pos e,hcs,Option.bind_some]
  split at hk
  · next ds hds=>
    replace hk:=listK_of hk
    exact ⟨_,h,by rw [hds],hk⟩
  · next hds=>
    replace hk:=listK_of hk
    replace hk:=hSet_of hk
    obtain ⟨h',hk,hh⟩:=hk
    exact ⟨_,h',by rw [hds,hh],hk⟩
 | load ty a=>
  replace hk:=evK_of (K:=fun a=>loadK tab h ty a _) hk
  replace hk:=loadK_of hk
  obtain ⟨v,hv,hk⟩:=hk
  exact ⟨v,h,by rw [sop_load,hv];rfl,hk⟩
 | store ty a x=>
  replace hk:=evK_of (K:=fun a=>evK t x fun x=>storeK tab h ty a x _) hk
  replace hk:=evK_of (K:=fun x=>storeK tab h ty _ x _) hk
  replace hk:=storeK_of hk
  obtain ⟨h',hv,hk⟩:=hk
  exact ⟨.un,h',by rw [sop_store,hv];rfl,hk⟩
 | nilCheck x=>
  simp only [opK] at hk
  replace hk:=evK_of hk
  rw [sop_nilCheck]
  generalize evS (tAt t) x = v at hk
  unfold nilCheckV
  split at hk
  · exact ⟨_,h,rfl,hk⟩
  · exact ⟨_,h,rfl,hk⟩
  · exact ⟨_,h,rfl,hk⟩
  · exact ⟨_,h,rfl,hk⟩
  · cases hk
 | binOp op ty x y ty'=>
  simp only [opK] at hk
  replace hk:=evK_of (evK_of hk)
  replace hk:=binOpK_of (t:=ty) hk (hAt h)
  obtain ⟨v,hv,hk⟩:=hk
  exact ⟨v,h,by rw [sop_binOp,hv],hk⟩
 | unOp op ty x=>
  simp only [opK] at hk
  replace hk:=evK_of hk
  replace hk:=unK_of hk
  obtain ⟨v,hv,hk⟩:=hk
  exact ⟨v,h,by rw [sop_unOp,hv];rfl,hk⟩
 | convert src dst x=>
  simp only [opK] at hk
  replace hk:=evK_of hk
  replace hk:=convK_of hk
  obtain ⟨e,v,hv,hk⟩:=hk
  exact ⟨v,h,by rw [sop_convert,if_pos e,hv];rfl,hk⟩
 | makeInterface ty x=>
  simp only [opK] at hk
  replace hk:=evK_of hk
  rw [sop_makeInterface]
  unfold ifaceV
  split at hk
  · cases hk
  · cases hk
  · next h1 h2=>
    replace hk:=valK_of (K:=fun v=>K (.ifc ty v) h) hk
    refine ⟨_,h,?_,hk⟩
    split
    · next e=>exact absurd e h1
    · next e=>exact absurd e h2
    · rfl
 | makeFunc fn first cap=>
  simp only [opK] at hk
  replace hk:=evsK_of (evsK_of hk)
  exact ⟨_,h,rfl,hk⟩
 | slice ty x lo hi mx=>
  simp only [opK] at hk
  replace hk:=optEv_of (optEv_of (optEv_of (evK_of hk)))
  replace hk:=sliceK_of hk
  obtain ⟨v,hv,hk⟩:=hk
  exact ⟨v,h,by rw [sop_slice,hv];rfl,hk⟩
 | fieldAddr s x f=>
  simp only [opK] at hk
  replace hk:=evK_of hk
  replace hk:=fieldAddrK_of hk
  obtain ⟨v,hv,hk⟩:=hk
  exact ⟨v,h,by rw [sop_fieldAddr,hv];rfl,hk⟩
 | field s x f=>
  simp only [opK] at hk
  replace hk:=evK_of hk
  replace hk:=fieldValK_of hk
  obtain ⟨v,hv,hk⟩:=hk
  exact ⟨v,h,by rw [sop_field,hv];rfl,hk⟩
 | indexAddr ty x i=>
  simp only [opK] at hk
  replace hk:=evK_of (evK_of hk)
  replace hk:=indexAddrK_of hk
  obtain ⟨v,hv,hk⟩:=hk
  exact ⟨v,h,by rw [sop_indexAddr,hv];rfl,hk⟩
 | index ty x i=>
  simp only [opK] at hk
  replace hk:=evK_of (evK_of hk)
  replace hk:=indexK_of hk
  obtain ⟨v,hv,hk⟩:=hk
  exact ⟨v,h,by rw [sop_index,hv];rfl,hk⟩
 | extract x i=>
  simp only [opK] at hk
  replace hk:=evK_of hk
  rw [sop_extract]
  generalize evS (tAt t) x = v at hk
  unfold extractV
  split at hk
  · replace hk:=optK_of hk
    obtain ⟨u,hu,hk⟩:=hk
    exact ⟨u,h,by simp [hu],valK_of (K:=fun v=>K v h) hk⟩
  · cases hk
 | call c=>
  obtain ⟨callee,args,tys⟩:=c
  cases callee with
  | builtin f=>
   replace hk:=builtK_of (c:=⟨.builtin f,args,tys⟩) rfl rfl rfl hk
   obtain ⟨v,h',hv,hk⟩:=hk
   exact ⟨v,h',by rw [sop_call,hv],hk⟩
  | _=>cases hk
 | _=>cases hk
theorem brK_of {x : Bool} {X Y : Prop} (h : brK x X Y) : (x = true → X) ∧ (x = false → Y):=by
 cases x
 · exact ⟨fun h=>(by cases h),fun _=>h⟩
 · exact ⟨fun _=>h,fun h=>(by cases h)⟩
theorem brK_mk {x : Bool} {X Y : Prop} (h1 : x = true → X) (h2 : x = false → Y) : brK x X Y:=by
 cases x
 · exact h2 rfl
 · exact h1 rfl
theorem putK_of {dst : Option Nat} {v : V} {t : List V} {K : List V → Prop} (h : putK dst v t K) : ∃ t',t'.length = t.length ∧ K t' ∧ tAt t' = putT dst v (tAt t) ∧ ∀ d,dst = some d → d < t.length:=by
 cases dst with
 | none=>exact ⟨t,rfl,h,rfl,by simp⟩
 | some d=>
  obtain ⟨h1,t',h2,h3,h4⟩:=tSet_of h
  exact ⟨t',h4,h2,h3,fun e he=>by cases he;exact h1⟩
theorem tAt_self {t t' : List V} {d : Nat} {v : V} (h : tAt t d = v) (h' : tAt t' = upd (tAt t) d v) : tAt t' = tAt t:=by
 rw [h'];funext m;unfold upd;split <;> simp_all
theorem guardK_of {ops : Array Oper} {o : Oper} {t : List V} {X Y : List V → Prop} (h : guardK ops o.guard t X Y) :
 ∃ t',t'.length = t.length ∧ tAt t' = tAt t ∧ ((guardV ops o (tAt t) = some true ∧ X t') ∨ (guardV ops o (tAt t) = some false ∧ Y t')):=by
 unfold guardK at h
 unfold guardV
 split at h
 · next hg=>exact ⟨t,rfl,rfl,.inl ⟨by rw [hg],h⟩⟩
 · next j want hg=>
   rw [hg]
   dsimp only
   split at h
   case h_2=>cases h
   next d hd=>
   rw [hd,Option.bind_some]
   split at h
   case h_3=>cases h
   case h_2 q hx=>
    rw [hx]
    exact ⟨t,rfl,rfl,.inr ⟨rfl,h⟩⟩
   next x hx=>
   rw [hx]
   simp only [boolOf,Option.map_some]
   cases want with
   | true=>
    obtain ⟨h1,h2⟩:=brK_of h
    cases x with
    | true=>
     obtain ⟨_,t',k1,k2,k3⟩:=tSet_of (h1 rfl)
     exact ⟨t',k3,tAt_self hx k2,.inl ⟨rfl,k1⟩⟩
    | false=>
     obtain ⟨_,t',k1,k2,k3⟩:=tSet_of (h2 rfl)
     exact ⟨t',k3,tAt_self hx k2,.inr ⟨rfl,k1⟩⟩
   | false=>
    obtain ⟨h1,h2⟩:=brK_of h
    cases x with
    | true=>
     obtain ⟨_,t',k1,k2,k3⟩:=tSet_of (h1 rfl)
     exact ⟨t',k3,tAt_self hx k2,.inr ⟨rfl,k1⟩⟩
    | false=>
     obtain ⟨_,t',k1,k2,k3⟩:=tSet_of (h2 rfl)
     exact ⟨t',k3,tAt_self hx k2,.inl ⟨rfl,k1⟩⟩
theorem funK_of {v : V} {K : FuncId → List V → List V → Prop} (h : funK v K) : ∃ f a c,v = .fn (.func f) a c ∧ K f a c:=by
 unfold funK at h
 split at h
 · exact ⟨_,_,_,rfl,h⟩
 · cases h
theorem operK_of {nm : Nat} {t : List V} {h : List (Nat × B)} {o : Oper} {K : V → List (Nat × B) → Prop} (hk : operK P tab nm t h o.op K) : opB P tab nm o (tAt t) (hAt h) fun v h'=>∃ l,h' = hAt l ∧ K v l:=by
 unfold operK at hk
 split at hk
 · obtain ⟨hk⟩:=hk
   exact .inr (hk.mono fun v h' ⟨l,e,hk⟩=>⟨l,e,valK_of (K:=fun v=>K v l) hk⟩)
 refine .inl ?_
 unfold operK0 at hk
 unfold opB0
 split at hk
 · next c x y ho=>
   replace hk:=evK_of hk
   split at hk
   case h_2=>cases hk
   next z hz=>
   simp only [ho,hz]
   obtain ⟨h1,h2⟩:=brK_of hk
   exact ⟨fun e=>⟨h,rfl,valK_of (K:=fun v=>K v h) (evK_of (K:=fun v=>valK v fun v=>K v h) (h1 e))⟩,fun e=>⟨h,rfl,valK_of (K:=fun v=>K v h) (evK_of (K:=fun v=>valK v fun v=>K v h) (h2 e))⟩⟩
 · next f args tys ho=>
   replace hk:=evK_of hk
   replace hk:=evsK_of hk
   replace hk:=funK_of hk
   obtain ⟨g,a,c,hf,hk⟩:=hk
   replace hk:=listK_of hk
   obtain ⟨hk⟩:=hk
   simp only [ho,hf]
   refine hk.mono ?_
   rintro r h' ⟨l,e,hk⟩
   exact ⟨l,e,valK_of (K:=fun v=>K v l) hk⟩
 · next bo ty x y ty' ho=>
   replace hk:=evK_of hk
   simp only [ho]
   split at hk
   · next neg p hask=>
     rw [hask]
     obtain ⟨hk⟩:=hk
     intro z hz
     have:=hk z hz
     refine ⟨h,rfl,?_⟩
     cases z <;> cases neg <;> exact this
   · next hask=>
     rw [hask]
     replace hk:=opK_of hk
     obtain ⟨v,h',hs,hk⟩:=hk
     exact ⟨(v,hAt h'),hs,h',rfl,hk⟩
 · next h1 h2 h3=>
   replace hk:=opK_of hk
   obtain ⟨v,h',hs,hk⟩:=hk
   have key : bindP (sop tab nm (evS (tAt t)) (hAt h) o.op) fun p=>∃ l,p.2 = hAt l ∧ K p.1 l:=⟨(v,hAt h'),hs,h',rfl,hk⟩
   generalize o.op = op at *
   cases op with
   | pick c x y=>exact absurd rfl (h1 c x y)
   | call c=>
    obtain ⟨callee,args,tys⟩:=c
    cases callee with
    | builtin f=>exact key
    | value f=>exact absurd rfl (h2 f args tys)
    | invoke r m=>cases hs
   | binOp bo ty x y ty'=>exact absurd rfl (h3 bo ty x y ty')
   | _=>exact key
end
end Go.Proofs.YtdjnjchpgccbiaaGreat.Abs
