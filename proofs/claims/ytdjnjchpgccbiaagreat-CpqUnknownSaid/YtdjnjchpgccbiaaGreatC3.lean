/- The abstract machine, part 18: append, regions, code: what the reckoning says is so. -/
import Derived.Test.YtdjnjchpgccbiaaGreatC2
namespace Go.Proofs.YtdjnjchpgccbiaaGreat.Abs
set_option linter.unusedVariables false
set_option linter.unusedSimpArgs false
section
variable {P : Program} {tab : Tab}
theorem Zmp {h : List (Nat × B)} {sz : Nat} {x : V} {K : List (List D) → Prop} {N : Prop} (hk : Zli h sz x K N) : (∃ src,Q9 (hAt h) sz x = some src ∧ K src) ∨ (Q9 (hAt h) sz x = none ∧ N):=by
 unfold Zli at hk
 split at hk
 · replace hk:=Zd hk
   obtain ⟨e,hk⟩:=hk
   exact .inl ⟨_,by simp only [Q9];rw [if_pos (Nat.eq_of_beq_eq_true e)],hk⟩
 · exact .inl ⟨_,rfl,hk⟩
 · next n sz' len=>
   replace hk:=Zd hk
   obtain ⟨e,hk⟩:=hk
   have e:=Nat.eq_of_beq_eq_true e
   split at hk
   · next s r hr=>
     replace hk:=Zd hk
     obtain ⟨e2,hk⟩:=hk
     have e2:=Nat.eq_of_beq_eq_true e2
     obtain ⟨hl,hk⟩:=hk
     exact .inl ⟨_,by simp only [Q9,Zbt,hr];rw [if_pos e,if_pos (e2.trans e),Option.bind_some,if_pos hl],hk⟩
   · cases hk
 · next n sz' off len=>
   replace hk:=Zd hk
   obtain ⟨e,hk⟩:=hk
   have e:=Nat.eq_of_beq_eq_true e
   split at hk
   · next s r hr=>
     replace hk:=Zd hk
     obtain ⟨e2,hk⟩:=hk
     have e2:=Nat.eq_of_beq_eq_true e2
     obtain ⟨hl,hk⟩:=hk
     exact .inl ⟨_,by simp only [Q9,Zbt,hr];rw [if_pos e,if_pos (e2.trans e),Option.bind_some,if_pos hl],hk⟩
   · next hne=>
     refine .inr ⟨?_,hk⟩
     simp only [Q9]
     rw [if_pos e]
     unfold Zbt
     split
     · next s r hr=>exact absurd hr (hne s r)
     · rfl
 · cases hk
theorem ZjV {nm : Nat} {h : List (Nat × B)} {t : TypeId} {s x : V} {K : V → List (Nat × B) → Prop} (hk : Zid tab nm h t s x K) : ∃ v h',YI tab nm (hAt h) t s x = some (v,hAt h') ∧ K v h':=by
 unfold Zid at hk
 replace hk:=Zdo hk
 obtain ⟨τ,ε,h1,h2,hk,hsl⟩:=hk
 split at hk
 case h_2=>cases hk
 next e he=>
 have hse:=hsl e he
 replace hk:=Zd hk
 obtain ⟨hb,hk⟩:=hk
 have hb:=Nat.le_of_ble_eq_true hb
 unfold YI
 rw [hse,Option.bind_some,if_pos hb]
 replace hk:=Zmp hk
 rcases hk with ⟨src,hsrc,hk⟩ | ⟨hnone,hk⟩
 · rw [hsrc]
   dsimp only
   split at hk
   · obtain ⟨hc,hk⟩:=hk
     replace hk:=ZX hk
     obtain ⟨h',hk,hh⟩:=hk
     exact ⟨_,h',by rw [if_pos hc,hh];rfl,hk⟩
   · replace hk:=Zd hk
     obtain ⟨e1,hk⟩:=hk
     obtain ⟨hc,hk⟩:=hk
     replace hk:=ZX hk
     obtain ⟨h',hk,hh⟩:=hk
     exact ⟨_,h',by dsimp only;rw [if_pos ⟨Nat.eq_of_beq_eq_true e1,hc⟩,hh],hk⟩
   · next n sz len=>
     replace hk:=Zd hk
     obtain ⟨e1,hk⟩:=hk
     have e1:=Nat.eq_of_beq_eq_true e1
     split at hk
     case h_2=>cases hk
     next s' r hr=>
     replace hk:=Zd hk
     obtain ⟨e2,hk⟩:=hk
     have e2:=Nat.eq_of_beq_eq_true e2
     obtain ⟨hc,hk⟩:=hk
     replace hk:=ZbR hk
     obtain ⟨h1',hk,hh1⟩:=hk
     replace hk:=ZX hk
     obtain ⟨h',hk,hh⟩:=hk
     exact ⟨_,h',by dsimp only;rw [show Zbt (hAt h) n sz = some r by simp only [Zbt,hr];rw [if_pos e2],Option.bind_some,if_pos ⟨e1,hc⟩,hh,hh1],hk⟩
   · next n sz off len=>
     replace hk:=Zd hk
     obtain ⟨e1,hk⟩:=hk
     have e1:=Nat.eq_of_beq_eq_true e1
     split at hk
     case h_2=>cases hk
     next s' r hr=>
     replace hk:=Zd hk
     obtain ⟨e2,hk⟩:=hk
     have e2:=Nat.eq_of_beq_eq_true e2
     obtain ⟨hc,hk⟩:=hk
     replace hk:=ZbR hk
     obtain ⟨h1',hk,hh1⟩:=hk
     replace hk:=ZX hk
     obtain ⟨h',hk,hh⟩:=hk
     exact ⟨_,h',by dsimp only;rw [show Zbt (hAt h) n sz = some r by simp only [Zbt,hr];rw [if_pos e2],Option.bind_some,if_pos ⟨e1,hc⟩,hh,hh1],hk⟩
   · cases hk
 · rw [hnone]
   dsimp only
   split at hk
   case h_2=>cases hk
   next n' sz' off' len'=>
   split at hk
   case h_2=>cases hk
   next s'' r' hr'=>
   replace hk:=Zd hk
   obtain ⟨e0,hk⟩:=hk
   have e0:=Nat.eq_of_beq_eq_true e0
   replace hk:=Zd hk
   obtain ⟨e1,hk⟩:=hk
   have e1:=Nat.le_of_ble_eq_true e1
   replace hk:=Zt hk
   replace hk:=Zd hk
   obtain ⟨e2,hk⟩:=hk
   have hrf : YO (hAt h) (.sl n' sz' off' len') = some ((r'.drop off').take len'):=by
    simp only [YO,ZbB,hr']
    rw [if_pos e0,Option.bind_some,if_pos e1]
   have hall : ((r'.drop off').take len').all (fun row=>decide (row.length = ε.size) && row.all V.leaf) = true:=by
    rw [List.all_eq_true] at e2 ⊢
    intro row hrow
    have:=e2 row hrow
    simp only [Bool.and_eq_true,decide_eq_true_eq] at this ⊢
    exact ⟨Nat.eq_of_beq_eq_true this.1,this.2⟩
   rw [hrf,Option.bind_some,if_pos hall]
   split at hk
   · obtain ⟨hc,hk⟩:=hk
     replace hk:=ZX hk
     obtain ⟨h',hk,hh⟩:=hk
     replace hk:=Zig hk
     rw [Nat.zero_add] at hk
     exact ⟨_,h',by rw [if_pos hc,hh];rfl,hk⟩
   · next n sz off len=>
     replace hk:=Zd hk
     obtain ⟨e3,hk⟩:=hk
     have e3:=Nat.eq_of_beq_eq_true e3
     split at hk
     case h_2=>cases hk
     next s' r hr=>
     replace hk:=Zd hk
     obtain ⟨e4,hk⟩:=hk
     have e4:=Nat.eq_of_beq_eq_true e4
     obtain ⟨hc,hk⟩:=hk
     replace hk:=ZbR hk
     obtain ⟨h1',hk,hh1⟩:=hk
     replace hk:=Zt hk
     replace hk:=ZX hk
     obtain ⟨h',hk,hh⟩:=hk
     exact ⟨_,h',by dsimp only;rw [show ZbB (hAt h) n sz = some r by simp only [ZbB,hr];rw [if_pos e4],Option.bind_some,if_pos ⟨e3,hc⟩,hh,hh1],hk⟩
   · cases hk
theorem Zpi {h : List (Nat × B)} {t : TypeId} {x : V} {K : V → Prop} (hk : ZqO tab h t x K) : ∃ n : Nat,((tab t).bind fun τ=>Znz (hAt h) τ.kind x) = some n ∧ K (V.int (n : Int)):=by
 unfold ZqO at hk
 split at hk
 · next e ht=>
   rw [Option.map_eq_some_iff] at ht
   obtain ⟨τ,hτ,hkd⟩:=ht
   rw [hτ,Option.bind_some,hkd]
   split at hk
   · exact ⟨_,rfl,hk⟩
   · exact ⟨_,rfl,hk⟩
   · exact ⟨_,rfl,hk⟩
   · exact ⟨0,rfl,hk⟩
   · cases hk
 · next k e ht=>
   rw [Option.map_eq_some_iff] at ht
   obtain ⟨τ,hτ,hkd⟩:=ht
   rw [hτ,Option.bind_some,hkd]
   split at hk
   · split at hk
     · next es hes=>exact ⟨_,by simp only [Znz,hes],hk⟩
     · cases hk
   · cases hk
 · cases hk
theorem Zml {mn : Bool} {x y : V} {K : V → Prop} (hk : ZtG mn x y K) : ∃ v,ZrD (fun b a=>if mn = true then decide (b < a) else decide (a < b)) x y = some v ∧ K v:=by
 unfold ZtG at hk
 split at hk
 · next k a k' b=>
   replace hk:=Zgj hk
   obtain ⟨e,hk⟩:=hk
   subst e
   cases mn with
   | true=>exact ⟨_,by simp [ZrD],hk⟩
   | false=>exact ⟨_,by simp [ZrD],hk⟩
 · cases hk
theorem ZkT {nm : Nat} {t : List V} {h : List (Nat × B)} {f : Builtin} {args : List Operand} {tys : List TypeId} {K : V → List (Nat × B) → Prop} {c : Call} (hc : c.callee = .builtin f) (ha : c.args.toList = args) (hty : c.argTypes.toList = tys) (hk : ZlX tab nm t h f args tys K) :
 ∃ v h',Zdg tab nm (evS (tAt t)) (hAt h) c = some (v,hAt h') ∧ K v h':=by
 unfold ZlX at hk
 unfold Zdg
 rw [hc,ha,hty]
 split at hk
 · replace hk:=ZD hk
   replace hk:=Zpi hk
   obtain ⟨n,hn,hk⟩:=hk
   exact ⟨_,h,by dsimp only;rw [hn];rfl,hk⟩
 · replace hk:=Zd hk
   obtain ⟨e,hk⟩:=hk
   replace hk:=ZD hk
   replace hk:=ZD hk
   replace hk:=ZjV hk
   obtain ⟨v,h',hv,hk⟩:=hk
   exact ⟨v,h',by dsimp only;rw [if_pos e,hv],hk⟩
 · replace hk:=ZD hk
   replace hk:=ZD hk
   replace hk:=Zml hk
   obtain ⟨v,hv,hk⟩:=hk
   exact ⟨v,h,by dsimp only;simp only [if_true] at hv;rw [hv];rfl,hk⟩
 · replace hk:=ZD hk
   replace hk:=ZD hk
   replace hk:=Zml hk
   obtain ⟨v,hv,hk⟩:=hk
   exact ⟨v,h,by dsimp only;simp only [Bool.false_eq_true,if_false] at hv;rw [hv];rfl,hk⟩
 · cases hk
theorem ZfQ {t : List V} {o : Option Operand} {K : Option V → Prop} (h : Zo8 t o K) : K (o.map (evS (tAt t))):=by
 cases o with
 | none=>exact h
 | some x=>exact ZD (K:=fun x=>K (some x)) h
theorem Zi3 {nm : Nat} {t : List V} {h : List (Nat × B)} {op : Op} {K : V → List (Nat × B) → Prop} (hk : opK tab nm t h op K) : ∃ v h',sop tab nm (evS (tAt t)) (hAt h) op = some (v,hAt h') ∧ K v h':=by
 cases op with
 | move x=>exact ⟨_,h,rfl,ZS (K:=fun v=>K v h) (ZD (K:=fun v=>ZbI v fun v=>K v h) hk)⟩
 | assign x=>exact ⟨_,h,rfl,ZS (K:=fun v=>K v h) (ZD (K:=fun v=>ZbI v fun v=>K v h) hk)⟩
 | alloc ty=>
  replace hk:=QL hk
  obtain ⟨τ,hτ,hk⟩:=hk
  replace hk:=Zgc hk
  replace hk:=ZX hk
  obtain ⟨h',hk,hh⟩:=hk
  exact ⟨_,h',by rw [ZbZ,hτ,hh];rfl,hk⟩
 | box ty x=>
  replace hk:=ZD (K:=fun v=>ZeN v _) hk
  replace hk:=Zej hk
  obtain ⟨xs,hxs,hk⟩:=hk
  replace hk:=Zig hk
  rw [Nat.zero_add] at hk
  replace hk:=ZX hk
  obtain ⟨h',hk,hh⟩:=hk
  exact ⟨_,h',by rw [ZcO,hxs,hh];rfl,hk⟩
 | build ty parts=>
  replace hk:=Zh6 hk
  replace hk:=QL hk
  obtain ⟨v,hv,hk⟩:=hk
  exact ⟨v,h,by rw [Zb1,hv];rfl,ZS (K:=fun v=>K v h) hk⟩
 | buildSlice ty len parts=>
  replace hk:=Zh6 hk
  replace hk:=QL hk
  obtain ⟨ε,hε,hk⟩:=hk
  replace hk:=Zd hk
  obtain ⟨e,hk⟩:=hk
  have e:=Nat.le_of_ble_eq_true e
  replace hk:=QL hk
  obtain ⟨cs,hcs,hk⟩:=hk
  rw [ZW]
  unfold Yh
  rw [hε,Option.bind_some,if_pos e,hcs,Option.bind_some]
  split at hk
  · next ds hds=>
    replace hk:=Zt hk
    exact ⟨_,h,by rw [hds],hk⟩
  · next hds=>
    replace hk:=Zt hk
    replace hk:=ZX hk
    obtain ⟨h',hk,hh⟩:=hk
    exact ⟨_,h',by rw [hds,hh],hk⟩
 | load ty a=>
  replace hk:=ZD (K:=fun a=>Zln tab h ty a _) hk
  replace hk:=Zjw hk
  obtain ⟨v,hv,hk⟩:=hk
  exact ⟨v,h,by rw [Zbh,hv];rfl,hk⟩
 | store ty a x=>
  replace hk:=ZD (K:=fun a=>evK t x fun x=>Zhv tab h ty a x _) hk
  replace hk:=ZD (K:=fun x=>Zhv tab h ty _ x _) hk
  replace hk:=Zng hk
  obtain ⟨h',hv,hk⟩:=hk
  exact ⟨.un,h',by rw [Zae,hv];rfl,hk⟩
 | nilCheck x=>
  simp only [opK] at hk
  replace hk:=ZD hk
  rw [Qg]
  generalize evS (tAt t) x = v at hk
  unfold Zad
  split at hk
  · exact ⟨_,h,rfl,hk⟩
  · exact ⟨_,h,rfl,hk⟩
  · exact ⟨_,h,rfl,hk⟩
  · exact ⟨_,h,rfl,hk⟩
  · cases hk
 | binOp op ty x y ty'=>
  simp only [opK] at hk
  replace hk:=ZD (ZD hk)
  replace hk:=ZmY (t:=ty) hk (hAt h)
  obtain ⟨v,hv,hk⟩:=hk
  exact ⟨v,h,by rw [ZaZ,hv],hk⟩
 | unOp op ty x=>
  simp only [opK] at hk
  replace hk:=ZD hk
  replace hk:=Zsm hk
  obtain ⟨v,hv,hk⟩:=hk
  exact ⟨v,h,by rw [Zdk,hv];rfl,hk⟩
 | convert src dst x=>
  simp only [opK] at hk
  replace hk:=ZD hk
  replace hk:=Zn6 hk
  obtain ⟨e,v,hv,hk⟩:=hk
  exact ⟨v,h,by rw [QG,if_pos e,hv];rfl,hk⟩
 | makeInterface ty x=>
  simp only [opK] at hk
  replace hk:=ZD hk
  rw [Z2]
  unfold Zfh
  split at hk
  · cases hk
  · cases hk
  · next h1 h2=>
    replace hk:=ZS (K:=fun v=>K (.ifc ty v) h) hk
    refine ⟨_,h,?_,hk⟩
    split
    · next e=>exact absurd e h1
    · next e=>exact absurd e h2
    · rfl
 | makeFunc fn first cap=>
  simp only [opK] at hk
  replace hk:=Zeq (Zeq hk)
  exact ⟨_,h,rfl,hk⟩
 | slice ty x lo hi mx=>
  simp only [opK] at hk
  replace hk:=ZfQ (ZfQ (ZfQ (ZD hk)))
  replace hk:=ZlZ hk
  obtain ⟨v,hv,hk⟩:=hk
  exact ⟨v,h,by rw [Zcp,hv];rfl,hk⟩
 | fieldAddr s x f=>
  simp only [opK] at hk
  replace hk:=ZD hk
  replace hk:=ZfG hk
  obtain ⟨v,hv,hk⟩:=hk
  exact ⟨v,h,by rw [Qu,hv];rfl,hk⟩
 | field s x f=>
  simp only [opK] at hk
  replace hk:=ZD hk
  replace hk:=ZgW hk
  obtain ⟨v,hv,hk⟩:=hk
  exact ⟨v,h,by rw [Zce,hv];rfl,hk⟩
 | indexAddr ty x i=>
  simp only [opK] at hk
  replace hk:=ZD (ZD hk)
  replace hk:=ZfK hk
  obtain ⟨v,hv,hk⟩:=hk
  exact ⟨v,h,by rw [Qs,hv];rfl,hk⟩
 | index ty x i=>
  simp only [opK] at hk
  replace hk:=ZD (ZD hk)
  replace hk:=ZlO hk
  obtain ⟨v,hv,hk⟩:=hk
  exact ⟨v,h,by rw [Zch,hv];rfl,hk⟩
 | extract x i=>
  simp only [opK] at hk
  replace hk:=ZD hk
  rw [QH]
  generalize evS (tAt t) x = v at hk
  unfold Zbi
  split at hk
  · replace hk:=QL hk
    obtain ⟨u,hu,hk⟩:=hk
    exact ⟨u,h,by simp [hu],ZS (K:=fun v=>K v h) hk⟩
  · cases hk
 | call c=>
  obtain ⟨callee,args,tys⟩:=c
  cases callee with
  | builtin f=>
   replace hk:=ZkT (c:=⟨.builtin f,args,tys⟩) rfl rfl rfl hk
   obtain ⟨v,h',hv,hk⟩:=hk
   exact ⟨v,h',by rw [Qt,hv],hk⟩
  | _=>cases hk
 | _=>cases hk
theorem ZdX {x : Bool} {X Y : Prop} (h : brK x X Y) : (x = true → X) ∧ (x = false → Y):=by
 cases x
 · exact ⟨fun h=>(by cases h),fun _=>h⟩
 · exact ⟨fun _=>h,fun h=>(by cases h)⟩
theorem ZdO {x : Bool} {X Y : Prop} (h1 : x = true → X) (h2 : x = false → Y) : brK x X Y:=by
 cases x
 · exact h2 rfl
 · exact h1 rfl
theorem Zgf {dst : Option Nat} {v : V} {t : List V} {K : List V → Prop} (h : Zl7 dst v t K) : ∃ t',t'.length = t.length ∧ K t' ∧ tAt t' = putT dst v (tAt t) ∧ ∀ d,dst = some d → d < t.length:=by
 cases dst with
 | none=>exact ⟨t,rfl,h,rfl,by simp⟩
 | some d=>
  obtain ⟨h1,t',h2,h3,h4⟩:=ZbK h
  exact ⟨t',h4,h2,h3,fun e he=>by cases he;exact h1⟩
theorem Zdt {t t' : List V} {d : Nat} {v : V} (h : tAt t d = v) (h' : tAt t' = upd (tAt t) d v) : tAt t' = tAt t:=by
 rw [h'];funext m;unfold upd;split <;> simp_all
theorem Zmd {ops : Array Oper} {o : Oper} {t : List V} {X Y : List V → Prop} (h : ZdU ops o.guard t X Y) :
 ∃ t',t'.length = t.length ∧ tAt t' = tAt t ∧ ((QK ops o (tAt t) = some true ∧ X t') ∨ (QK ops o (tAt t) = some false ∧ Y t')):=by
 unfold ZdU at h
 unfold QK
 split at h
 · next hg=>exact ⟨t,rfl,rfl,.inl ⟨by rw [hg],h⟩⟩
 · next j want hg=>
   rw [hg]
   dsimp only
   split at h
   case h_2=>cases h
   next d hd=>
   rw [hd,Option.bind_some]
   split at h
   case h_3=>cases h
   case h_2 q hx=>
    rw [hx]
    exact ⟨t,rfl,rfl,.inr ⟨rfl,h⟩⟩
   next x hx=>
   rw [hx]
   simp only [Zk2,Option.map_some]
   cases want with
   | true=>
    obtain ⟨h1,h2⟩:=ZdX h
    cases x with
    | true=>
     obtain ⟨_,t',k1,k2,k3⟩:=ZbK (h1 rfl)
     exact ⟨t',k3,Zdt hx k2,.inl ⟨rfl,k1⟩⟩
    | false=>
     obtain ⟨_,t',k1,k2,k3⟩:=ZbK (h2 rfl)
     exact ⟨t',k3,Zdt hx k2,.inr ⟨rfl,k1⟩⟩
   | false=>
    obtain ⟨h1,h2⟩:=ZdX h
    cases x with
    | true=>
     obtain ⟨_,t',k1,k2,k3⟩:=ZbK (h1 rfl)
     exact ⟨t',k3,Zdt hx k2,.inr ⟨rfl,k1⟩⟩
    | false=>
     obtain ⟨_,t',k1,k2,k3⟩:=ZbK (h2 rfl)
     exact ⟨t',k3,Zdt hx k2,.inl ⟨rfl,k1⟩⟩
theorem Zlh {v : V} {K : FuncId → List V → List V → Prop} (h : Ztz v K) : ∃ f a c,v = .fn (.func f) a c ∧ K f a c:=by
 unfold Ztz at h
 split at h
 · exact ⟨_,_,_,rfl,h⟩
 · cases h
theorem Zol {nm : Nat} {t : List V} {h : List (Nat × B)} {o : Oper} {K : V → List (Nat × B) → Prop} (hk : Zlz P tab nm t h o.op K) : opB P tab nm o (tAt t) (hAt h) fun v h'=>∃ l,h' = hAt l ∧ K v l:=by
 unfold Zlz at hk
 split at hk
 · obtain ⟨hk⟩:=hk
   exact .inr (hk.mono fun v h' ⟨l,e,hk⟩=>⟨l,e,ZS (K:=fun v=>K v l) hk⟩)
 refine .inl ?_
 unfold ZpG at hk
 unfold Ztw
 split at hk
 · next c x y ho=>
   replace hk:=ZD hk
   split at hk
   case h_2=>cases hk
   next z hz=>
   simp only [ho,hz]
   obtain ⟨h1,h2⟩:=ZdX hk
   exact ⟨fun e=>⟨h,rfl,ZS (K:=fun v=>K v h) (ZD (K:=fun v=>ZbI v fun v=>K v h) (h1 e))⟩,fun e=>⟨h,rfl,ZS (K:=fun v=>K v h) (ZD (K:=fun v=>ZbI v fun v=>K v h) (h2 e))⟩⟩
 · next f args tys ho=>
   replace hk:=ZD hk
   replace hk:=Zeq hk
   replace hk:=Zlh hk
   obtain ⟨g,a,c,hf,hk⟩:=hk
   replace hk:=Zt hk
   obtain ⟨hk⟩:=hk
   simp only [ho,hf]
   refine hk.mono ?_
   rintro r h' ⟨l,e,hk⟩
   exact ⟨l,e,ZS (K:=fun v=>K v l) hk⟩
 · next bo ty x y ty' ho=>
   replace hk:=ZD hk
   simp only [ho]
   split at hk
   · next neg p hask=>
     rw [hask]
     obtain ⟨hk⟩:=hk
     intro z hz
     have:=hk z hz
     refine ⟨h,rfl,?_⟩
     cases z <;> cases neg <;> exact this
   · next hask=>
     rw [hask]
     replace hk:=Zi3 hk
     obtain ⟨v,h',hs,hk⟩:=hk
     exact ⟨(v,hAt h'),hs,h',rfl,hk⟩
 · next h1 h2 h3=>
   replace hk:=Zi3 hk
   obtain ⟨v,h',hs,hk⟩:=hk
   have key : Zmk (sop tab nm (evS (tAt t)) (hAt h) o.op) fun p=>∃ l,p.2 = hAt l ∧ K p.1 l:=⟨(v,hAt h'),hs,h',rfl,hk⟩
   generalize o.op = op at *
   cases op with
   | pick c x y=>exact absurd rfl (h1 c x y)
   | call c=>
    obtain ⟨callee,args,tys⟩:=c
    cases callee with
    | builtin f=>exact key
    | value f=>exact absurd rfl (h2 f args tys)
    | invoke r m=>cases hs
   | binOp bo ty x y ty'=>exact absurd rfl (h3 bo ty x y ty')
   | _=>exact key
end
end Go.Proofs.YtdjnjchpgccbiaaGreat.Abs
