/- The abstract machine, part 20: the rules for the places where the reckoning stands still. -/
import Derived.Test.YtdjnjchpgccbiaaGreatC4
import Derived.LoopN
import Derived.LoopNIn
import Derived.IntWalk
namespace Go.Proofs.YtdjnjchpgccbiaaGreat.Abs
set_option linter.unusedVariables false
set_option linter.unusedSimpArgs false
theorem names_below : ∀ {x : V},Zc x = [] → ∀ M : Nm,x.Below M
 | .un,_,M=>.un
 | .c v,_,M=>.c v
 | .lst _ _ _,_,M=>.lst _ _ _
 | .q _ _,_,M=>.q _ _
 | .sl n a b c,h,M=>by simp [Zc] at h
 | .ac n a b,h,M=>by simp [Zc] at h
 | .p n a b c,h,M=>by simp [Zc] at h
 | .sx n a b c d,h,M=>by simp [Zc] at h
 | .mp n,h,M=>by simp [Zc] at h
 | .agg xs,h,M=>.agg _ fun x hx=>names_below' (by simpa [Zc] using h) M x hx
 | .tup xs,h,M=>.tup _ fun x hx=>names_below' (by simpa [Zc] using h) M x hx
 | .fn f xs ys,h,M=>by
  simp only [Zc,List.append_eq_nil_iff] at h
  exact .fn _ _ _ (fun x hx=>names_below' h.1 M x hx) (fun x hx=>names_below' h.2 M x hx)
 | .ifc t x,h,M=>.ifc _ _ (names_below (by simpa [Zc] using h) M)
 where
 names_below' : ∀ {xs : List V},Zp xs = [] → ∀ (M : Nm),∀ x ∈ xs,x.Below M
  | [],_,M,x,hx=>by simp at hx
  | y :: ys,h,M,x,hx=>by
   simp only [Zp,List.append_eq_nil_iff] at h
   rcases List.mem_cons.1 hx with e | hx
   · rw [e];exact names_below h.1 M
   · exact names_below' h.2 M x hx
mutual
theorem Za5 {b : Nat} : ∀ {x : V},(Zc x).all (fun n=>Nat.blt n b) = true → x.Below (Lt b)
 | .un,_=>.un
 | .c v,_=>.c v
 | .lst _ _ _,_=>.lst _ _ _
 | .q _ _,_=>.q _ _
 | .sl n _ _ _,h=>.sl _ _ _ _ (by simpa [Zc,Nat.blt_eq,Lt] using h)
 | .ac n _ _,h=>.ac _ _ _ (by simpa [Zc,Nat.blt_eq,Lt] using h)
 | .sx n _ _ _ _,h=>.sx _ _ _ _ _ (by simpa [Zc,Nat.blt_eq,Lt] using h)
 | .p n _ _ _,h=>.p _ _ _ _ (by simpa [Zc,Nat.blt_eq,Lt] using h)
 | .mp n,h=>.mp _ (by simpa [Zc,Nat.blt_eq,Lt] using h)
 | .agg xs,h=>.agg _ fun x hx=>Ym (by simpa [Zc] using h) x hx
 | .tup xs,h=>.tup _ fun x hx=>Ym (by simpa [Zc] using h) x hx
 | .fn f xs ys,h=>by
  simp only [Zc,List.all_append,Bool.and_eq_true] at h
  exact .fn _ _ _ (fun x hx=>Ym h.1 x hx) (fun x hx=>Ym h.2 x hx)
 | .ifc t x,h=>.ifc _ _ (Za5 (by simpa [Zc] using h))
theorem Ym {b : Nat} : ∀ {xs : List V},(Zp xs).all (fun n=>Nat.blt n b) = true → ∀ x ∈ xs,x.Below (Lt b)
 | [],_,x,hx=>by simp at hx
 | y :: ys,h,x,hx=>by
  simp only [Zp,List.all_append,Bool.and_eq_true] at h
  rcases List.mem_cons.1 hx with e | hx
  · rw [e];exact Za5 h.1
  · exact Ym h.2 x hx
end
theorem Zsv {n : Int} (h1 : -9223372036854775808 ≤ n) (h2 : n ≤ 9223372036854775807) : wr .i64 n = n:=by
 have e : wr .i64 n = IntKind.wrap .i64 n:=rfl
 rw [e,IntKind.wrap_i64];omega
theorem wrB {n : Int} {K : Int → Prop} (h : -9223372036854775808 ≤ n ∧ n ≤ 9223372036854775807) (k : K n) : WrB .i64 n K:=⟨by rw [Zsv h.1 h.2];exact k⟩
theorem cb {p K : Prop} (h : p) (k : K) : CB p K:=⟨h,k⟩
theorem atB {len m : Nat} {K : Nat → Prop} (h : m < len) (k : K m) : AtB (m : Int) len K:=⟨m,rfl,h,k⟩
theorem Z7 {i : Int} {len : Nat} {K : Nat → Prop} (m : Nat) (hi : i = (m : Int)) (h : m < len) (k : K m) : AtB i len K:=⟨m,hi,h,k⟩
theorem Zcw {α β : Type} {l : List α} {f : α → β} {m : Nat} {x : α} {K : β → Prop} (h : l[m]? = some x) (k : K (f x)) : IdxB (l.map f) (m : Int) K:=⟨m,f x,rfl,by simp [h],k⟩
theorem QI {α β : Type} {l : List α} {f : α → β} {i : Int} {K : β → Prop} (m : Nat) (x : α) (hi : i = (m : Int)) (h : l[m]? = some x) (k : K (f x)) : IdxB (l.map f) i K:=⟨m,f x,hi,by simp [h],k⟩
theorem Zmf {α : Type} {l : List α} {i : Int} {x : α} {K : α → Prop} (h0 : 0 ≤ i) (h : l[i.toNat]? = some x) (k : K x) : IdxB l i K:=⟨i.toNat,x,by omega,h,k⟩
theorem ZpS {i : Int} {len : Nat} {K : Nat → Prop} (h0 : 0 ≤ i) (h : i.toNat < len) (k : K i.toNat) : AtB i len K:=⟨i.toNat,by omega,h,k⟩
theorem Yy {α β : Type} {l : List α} {f : α → β} {m : Nat} {x : α} {K : β → Prop} (h : l[m]? = some x) (k : K (f x)) : GetB (l.map f) m K:=⟨f x,by simp [h],k⟩
theorem Y6 {α : Type} {l : List α} {m : Nat} {K : α → Prop} (x : α) (h : l[m]? = some x) (k : K x) : GetB l m K:=⟨x,h,k⟩
theorem slB {len : Nat} {lo hi : Option Int} {K : Nat → Nat → Prop} (a b : Nat) (ha : ZtI a lo) (hb : Zkw len b hi) (h : a ≤ b ∧ b ≤ len) (k : K a b) : SlB len lo hi K:=⟨a,b,ha,hb,h.1,h.2,k⟩
theorem okB {c : Bool} {K : Prop} (h : c = true) (k : K) : OkB c K:=⟨h,k⟩
theorem ZrO {p : Prop} {K : Bool → Prop} (k0 : K false) (k1 : p → K true) : NilB p K:=⟨fun z hz=>by
 cases z with
 | false=>exact k0
 | true=>exact k1 (hz rfl)⟩
theorem Zf {p : Prop} [Decidable p] {X Y : Prop} (h1 : p → X) (h2 : ¬ p → Y) : brK (decide p) X Y:=ZdO (fun h=>h1 (of_decide_eq_true h)) (fun h=>h2 (of_decide_eq_false h))
theorem Za3 {p : Prop} [Decidable p] {X Y : Prop} (h1 : ¬ p → X) (h2 : p → Y) : brK (!decide p) X Y:=ZdO (fun h=>h1 (by simpa using h)) (fun h=>h2 (by simpa using h))
theorem Zl4 {x : Bool} {X Y : Prop} (h : x = true) (k : X) : brK x X Y:=by rw [h];exact k
theorem Zk9 {x : Bool} {X Y : Prop} (h : x = false) (k : Y) : brK x X Y:=by rw [h];exact k
section
variable {P : Program} {tab : Tab}
theorem Zh {f : FuncId} {args : List V} {h : List (Nat × B)} {b : Nat} {K : V → List (Nat × B) → Prop} {r : V} (hs : PSpec P f args r) (k : K r h) : CallB P f args h b K:=⟨hs.call ⟨h,rfl,k⟩⟩
theorem ZjW {f : FuncId} {args : List V} {h : List (Nat × B)} {b : Nat} {K : V → List (Nat × B) → Prop} (ds : List V) {r : V} (hs : PSpecN P f ds r) (hl : LendL (hAt h) ds args) (k : K r h) : CallB P f args h b K:=⟨PCall.call (.inr ⟨ds,hl,hs⟩) ⟨h,rfl,k⟩⟩
theorem Zn {f : FuncId} {args : List V} {h : List (Nat × B)} {b : Nat} {K : V → List (Nat × B) → Dyn → Prop} {r : V} (hs : PSpec P f args r) (k : K r h ⟨Zp args,[],[],false⟩) : DCallB P f args h b K:=
 ⟨_,r,[],h,rfl,PCall.lcall (.inl hs) b,rfl,k⟩
theorem pspec (ht : Zk P tab) (hmix : P.follows .mixedOrders = true) {f : FuncId} {fn : Func} (hf : P.funcs[f]? = some fn) (hname : (fn.name == "runtime.NumGoroutine") = false)
 {args : List V} {r : V} (ha : Zp args = []) (hr : Zc r = []) (h : fnK P tab 0 fn args [] 0 fun v h' b=>RetB h' v r) : PSpec P f args r:=
 PSpec.of ht hmix hf hname (names_below.names_below' ha _) (names_below hr _) h
noncomputable def ZqI (P : Program) (tab : Tab) (N : Nat) (x : Operand) (c d : Code) (t : List V) (h : List (Nat × B)) (b : Nat) (K : Ex → List V → List (Nat × B) → Nat → Prop) : Prop:=
 evK t x fun v=>match v with
  | .c (.bool z)=>brK z (Zcz P tab N c t h b K) (Zcz P tab N d t h b K)
  | _=>False
noncomputable def Zoj (P : Program) (tab : Tab) (N : Nat) (c : Code) (t : List V) (h : List (Nat × B)) (b : Nat) (K : Ex → List V → List (Nat × B) → Nat → Prop) : Prop:=
 match c with
 | .cond x c d=>ZqI P tab N x c d t h b K
 | .region _ ops draw=>Zts P tab ops draw t h b K
 | _=>False
theorem ZiV (ht : Zk P tab) (hmix : P.follows .mixedOrders = true) {N : Nat} {c : Code} {t : List V} {h : List (Nat × B)} {b : Nat} {K : Ex → List V → List (Nat × B) → Nat → Prop} (hk : Zoj P tab N c t h b K) (hb : N ≤ b) :
 AWP P (Lt N) c (Ztx t.length N K) ⟨tAt t,hAt h,b,t.length⟩:=by
 cases c with
 | cond x c d=>
  replace hk:=ZD (K:=fun v=>match v with
   | .c (.bool z)=>brK z (Zcz P tab N c t h b K) (Zcz P tab N d t h b K)
   | _=>False) hk
  split at hk
  case h_2=>cases hk
  next z hz=>
  obtain ⟨h1,h2⟩:=ZdX hk
  exact Zo0 hz (fun e=>Qa ht hmix c t h b K hb (h1 e)) (fun e=>Qa ht hmix d t h b K hb (h2 e))
 | region id ops draw=>exact regK_of ht hmix hb hk
 | _=>cases hk
theorem cnd (ht : Zk P tab) (hmix : P.follows .mixedOrders = true) {N : Nat} {c : Code} {t : List V} {h : List (Nat × B)} {b : Nat} {K : Ex → List V → List (Nat × B) → Nat → Prop} (hk : Zoj P tab N c t h b K) : StepB P tab N c t h b K:=
 ⟨fun hb=>ZiV ht hmix hk hb⟩
def ZfO (P : Program) (M0 : Nm) (c : Code) (Q : Ex → St → Prop) : Nat → St → Prop
 | 0,_=>False
 | n + 1,s=>AWP P M0 c (Zrq (ZfO P M0 c Q n) Q) s
theorem ZjH {M0 : Nm} {c : Code} {Q : Ex → St → Prop} (n : Nat) {s : St} (h : ZfO P M0 c Q n s) : AWP P M0 (.loop c) Q s:=by
 intro rd hrd dep F ids0 w0 a0 hr0
 refine wpIn_loop_rounds n ?_
 have key : ∀ n (s1 : St) ids w a,ZfO P M0 c Q n s1 → Rep F ids w s1 a → KeepA M0 ids0 w0 s.h a0 ids w s1.h a →
  Code.roundsIn (Fw rd) dep P c (fun e a' w'=>∃ x s' ids',x.is e ∧ Q x s' ∧ Rep F ids' w' s' a' ∧ KeepA M0 ids0 w0 s.h a0 ids' w' s'.h a') n a w:=by
  intro n
  induction n with
  | zero=>intro s1 ids w a h;exact h.elim
  | succ n ih=>
   intro s1 ids w a h hr hk
   rw [roundsIn_succ]
   refine wpIn_mono (h rd hrd dep F ids w a hr) ?_
   rintro e a' w' ⟨x,s',ids',hx,hq,hr',hk'⟩
   cases e with
   | normal=>
    cases x with
    | normal=>exact ih s' ids' w' a' hq hr' (hk.trans hk')
    | _=>cases hx
   | exit k=>cases x <;> first | exact ⟨_,s',ids',hx,hq,hr',hk.trans hk'⟩ | exact absurd hx (by intro h;exact h)
   | ret=>cases x <;> first | exact ⟨_,s',ids',hx,hq,hr',hk.trans hk'⟩ | exact absurd hx (by intro h;exact h)
   | _=>cases x <;> cases hx
 exact key n s ids0 w0 a0 h hr0 KeepA.refl
abbrev ZgB:=List V → List (Nat × B) → Nat → Prop
def ZtT : ZgB:=fun _ _ _=>False
def ZtU (P : Program) (tab : Tab) (N : Nat) (c : Code) (K : Ex → List V → List (Nat × B) → Nat → Prop) (n : Nat) (ih : ZgB) : ZgB:=fun t h b=>
 Zcz P tab N c t h b fun e t h b=>match e with
  | .normal=>ih t h b
  | .exit i=>K (.exit i) t h b
  | .ret=>K .ret t h b
noncomputable def Zl1 (P : Program) (tab : Tab) (N : Nat) (c : Code) (K : Ex → List V → List (Nat × B) → Nat → Prop) (n : Nat) : ZgB:=Nat.rec (motive:=fun _=>ZgB) ZtT (ZtU P tab N c K) n
theorem Zgs (ht : Zk P tab) (hmix : P.follows .mixedOrders = true) {N : Nat} {c : Code} {t : List V} {h : List (Nat × B)} {b : Nat} {K : Ex → List V → List (Nat × B) → Nat → Prop} (n : Nat) (hb : N ≤ b) (hk : Zl1 P tab N c K n t h b) : LoopB P tab N c t h b K:=by
 refine ⟨hb,ZjH n ?_⟩
 have key : ∀ n t' h b,t'.length = t.length → N ≤ b → Zl1 P tab N c K n t' h b → ZfO P (Lt N) c (Ztx t.length N K) n ⟨tAt t',hAt h,b,t'.length⟩:=by
  intro n
  induction n with
  | zero=>intro t' h b _ _ hk;exact hk.elim
  | succ n ih=>
   intro t' h b hl hb hk
   refine AWP.mono (Qa ht hmix c t' h b _ hb hk) ?_
   rintro x s ⟨t2,h2,b2,rfl,e1,hb2,hk⟩
   cases x with
   | normal=>exact ih t2 h2 b2 (e1.trans hl) hb2 hk
   | exit i=>exact ⟨t2,h2,b2,rfl,e1.trans hl,hb2,hk⟩
   | ret=>exact ⟨t2,h2,b2,rfl,e1.trans hl,hb2,hk⟩
 exact key n t h b rfl hb hk
end
end Go.Proofs.YtdjnjchpgccbiaaGreat.Abs
