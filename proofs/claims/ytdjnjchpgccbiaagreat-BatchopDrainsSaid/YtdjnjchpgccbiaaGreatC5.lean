/- The abstract machine, part 20: the rules for the places where the reckoning stands still. -/
import Derived.Test.YtdjnjchpgccbiaaGreatC4
import Derived.LoopN
import Derived.LoopNIn
import Derived.IntWalk
namespace Go.Proofs.YtdjnjchpgccbiaaGreat.Abs
set_option linter.unusedVariables false
set_option linter.unusedSimpArgs false
theorem names_below : ∀ {x : V},nameOf x = [] → ∀ M : Nm,x.Below M
 | .un,_,M=>.un
 | .c v,_,M=>.c v
 | .lst _ _ _,_,M=>.lst _ _ _
 | .q _ _,_,M=>.q _ _
 | .sl n a b c,h,M=>by simp [nameOf] at h
 | .ac n a b,h,M=>by simp [nameOf] at h
 | .p n a b c,h,M=>by simp [nameOf] at h
 | .sx n a b c d,h,M=>by simp [nameOf] at h
 | .mp n,h,M=>by simp [nameOf] at h
 | .agg xs,h,M=>.agg _ fun x hx=>names_below' (by simpa [nameOf] using h) M x hx
 | .tup xs,h,M=>.tup _ fun x hx=>names_below' (by simpa [nameOf] using h) M x hx
 | .fn f xs ys,h,M=>by
  simp only [nameOf,List.append_eq_nil_iff] at h
  exact .fn _ _ _ (fun x hx=>names_below' h.1 M x hx) (fun x hx=>names_below' h.2 M x hx)
 | .ifc t x,h,M=>.ifc _ _ (names_below (by simpa [nameOf] using h) M)
 where
 names_below' : ∀ {xs : List V},namesOf xs = [] → ∀ (M : Nm),∀ x ∈ xs,x.Below M
  | [],_,M,x,hx=>by simp at hx
  | y :: ys,h,M,x,hx=>by
   simp only [namesOf,List.append_eq_nil_iff] at h
   rcases List.mem_cons.1 hx with e | hx
   · rw [e];exact names_below h.1 M
   · exact names_below' h.2 M x hx
mutual
theorem all_below {b : Nat} : ∀ {x : V},(nameOf x).all (fun n=>Nat.blt n b) = true → x.Below (Lt b)
 | .un,_=>.un
 | .c v,_=>.c v
 | .lst _ _ _,_=>.lst _ _ _
 | .q _ _,_=>.q _ _
 | .sl n _ _ _,h=>.sl _ _ _ _ (by simpa [nameOf,Nat.blt_eq,Lt] using h)
 | .ac n _ _,h=>.ac _ _ _ (by simpa [nameOf,Nat.blt_eq,Lt] using h)
 | .sx n _ _ _ _,h=>.sx _ _ _ _ _ (by simpa [nameOf,Nat.blt_eq,Lt] using h)
 | .p n _ _ _,h=>.p _ _ _ _ (by simpa [nameOf,Nat.blt_eq,Lt] using h)
 | .mp n,h=>.mp _ (by simpa [nameOf,Nat.blt_eq,Lt] using h)
 | .agg xs,h=>.agg _ fun x hx=>all_belows (by simpa [nameOf] using h) x hx
 | .tup xs,h=>.tup _ fun x hx=>all_belows (by simpa [nameOf] using h) x hx
 | .fn f xs ys,h=>by
  simp only [nameOf,List.all_append,Bool.and_eq_true] at h
  exact .fn _ _ _ (fun x hx=>all_belows h.1 x hx) (fun x hx=>all_belows h.2 x hx)
 | .ifc t x,h=>.ifc _ _ (all_below (by simpa [nameOf] using h))
theorem all_belows {b : Nat} : ∀ {xs : List V},(namesOf xs).all (fun n=>Nat.blt n b) = true → ∀ x ∈ xs,x.Below (Lt b)
 | [],_,x,hx=>by simp at hx
 | y :: ys,h,x,hx=>by
  simp only [namesOf,List.all_append,Bool.and_eq_true] at h
  rcases List.mem_cons.1 hx with e | hx
  · rw [e];exact all_below h.1
  · exact all_belows h.2 x hx
end
theorem wr_i64 {n : Int} (h1 : -9223372036854775808 ≤ n) (h2 : n ≤ 9223372036854775807) : wr .i64 n = n:=by
 have e : wr .i64 n = IntKind.wrap .i64 n:=rfl
 rw [e,IntKind.wrap_i64];omega
theorem wrB {n : Int} {K : Int → Prop} (h : -9223372036854775808 ≤ n ∧ n ≤ 9223372036854775807) (k : K n) : WrB .i64 n K:=⟨by rw [wr_i64 h.1 h.2];exact k⟩
theorem cb {p K : Prop} (h : p) (k : K) : CB p K:=⟨h,k⟩
theorem atB {len m : Nat} {K : Nat → Prop} (h : m < len) (k : K m) : AtB (m : Int) len K:=⟨m,rfl,h,k⟩
theorem atB_eq {i : Int} {len : Nat} {K : Nat → Prop} (m : Nat) (hi : i = (m : Int)) (h : m < len) (k : K m) : AtB i len K:=⟨m,hi,h,k⟩
theorem idxB {α β : Type} {l : List α} {f : α → β} {m : Nat} {x : α} {K : β → Prop} (h : l[m]? = some x) (k : K (f x)) : IdxB (l.map f) (m : Int) K:=⟨m,f x,rfl,by simp [h],k⟩
theorem idxB_eq {α β : Type} {l : List α} {f : α → β} {i : Int} {K : β → Prop} (m : Nat) (x : α) (hi : i = (m : Int)) (h : l[m]? = some x) (k : K (f x)) : IdxB (l.map f) i K:=⟨m,f x,hi,by simp [h],k⟩
theorem idxB_at {α : Type} {l : List α} {i : Int} {x : α} {K : α → Prop} (h0 : 0 ≤ i) (h : l[i.toNat]? = some x) (k : K x) : IdxB l i K:=⟨i.toNat,x,by omega,h,k⟩
theorem atB_at {i : Int} {len : Nat} {K : Nat → Prop} (h0 : 0 ≤ i) (h : i.toNat < len) (k : K i.toNat) : AtB i len K:=⟨i.toNat,by omega,h,k⟩
theorem getB {α β : Type} {l : List α} {f : α → β} {m : Nat} {x : α} {K : β → Prop} (h : l[m]? = some x) (k : K (f x)) : GetB (l.map f) m K:=⟨f x,by simp [h],k⟩
theorem getB_lit {α : Type} {l : List α} {m : Nat} {K : α → Prop} (x : α) (h : l[m]? = some x) (k : K x) : GetB l m K:=⟨x,h,k⟩
theorem slB {len : Nat} {lo hi : Option Int} {K : Nat → Nat → Prop} (a b : Nat) (ha : isLo a lo) (hb : isHi len b hi) (h : a ≤ b ∧ b ≤ len) (k : K a b) : SlB len lo hi K:=⟨a,b,ha,hb,h.1,h.2,k⟩
theorem okB {c : Bool} {K : Prop} (h : c = true) (k : K) : OkB c K:=⟨h,k⟩
theorem nilB {p : Prop} {K : Bool → Prop} (k0 : K false) (k1 : p → K true) : NilB p K:=⟨fun z hz=>by
 cases z with
 | false=>exact k0
 | true=>exact k1 (hz rfl)⟩
theorem br_dec {p : Prop} [Decidable p] {X Y : Prop} (h1 : p → X) (h2 : ¬ p → Y) : brK (decide p) X Y:=brK_mk (fun h=>h1 (of_decide_eq_true h)) (fun h=>h2 (of_decide_eq_false h))
theorem br_ndec {p : Prop} [Decidable p] {X Y : Prop} (h1 : ¬ p → X) (h2 : p → Y) : brK (!decide p) X Y:=brK_mk (fun h=>h1 (by simpa using h)) (fun h=>h2 (by simpa using h))
theorem br_yes {x : Bool} {X Y : Prop} (h : x = true) (k : X) : brK x X Y:=by rw [h];exact k
theorem br_no {x : Bool} {X Y : Prop} (h : x = false) (k : Y) : brK x X Y:=by rw [h];exact k
section
variable {P : Program} {tab : Tab}
theorem callB {f : FuncId} {args : List V} {h : List (Nat × B)} {b : Nat} {K : V → List (Nat × B) → Prop} {r : V} (hs : PSpec P f args r) (k : K r h) : CallB P f args h b K:=⟨hs.call ⟨h,rfl,k⟩⟩
theorem callB_lend {f : FuncId} {args : List V} {h : List (Nat × B)} {b : Nat} {K : V → List (Nat × B) → Prop} (ds : List V) {r : V} (hs : PSpecN P f ds r) (hl : LendL (hAt h) ds args) (k : K r h) : CallB P f args h b K:=⟨PCall.call (.inr ⟨ds,hl,hs⟩) ⟨h,rfl,k⟩⟩
theorem dcallB {f : FuncId} {args : List V} {h : List (Nat × B)} {b : Nat} {K : V → List (Nat × B) → Dyn → Prop} {r : V} (hs : PSpec P f args r) (k : K r h ⟨namesOf args,[],[],false⟩) : DCallB P f args h b K:=
 ⟨_,r,[],h,rfl,PCall.lcall (.inl hs) b,rfl,k⟩
theorem pspec (ht : TabOk P tab) (hmix : P.follows .mixedOrders = true) {f : FuncId} {fn : Func} (hf : P.funcs[f]? = some fn) (hname : (fn.name == "runtime.NumGoroutine") = false)
 {args : List V} {r : V} (ha : namesOf args = []) (hr : nameOf r = []) (h : fnK P tab 0 fn args [] 0 fun v h' b=>RetB h' v r) : PSpec P f args r:=
 PSpec.of ht hmix hf hname (names_below.names_below' ha _) (names_below hr _) h
noncomputable def choiceK (P : Program) (tab : Tab) (N : Nat) (x : Operand) (c d : Code) (t : List V) (h : List (Nat × B)) (b : Nat) (K : Ex → List V → List (Nat × B) → Nat → Prop) : Prop:=
 evK t x fun v=>match v with
  | .c (.bool z)=>brK z (codeK P tab N c t h b K) (codeK P tab N d t h b K)
  | _=>False
noncomputable def stepK (P : Program) (tab : Tab) (N : Nat) (c : Code) (t : List V) (h : List (Nat × B)) (b : Nat) (K : Ex → List V → List (Nat × B) → Nat → Prop) : Prop:=
 match c with
 | .cond x c d=>choiceK P tab N x c d t h b K
 | .region _ ops draw=>regK P tab ops draw t h b K
 | _=>False
theorem stepK_of (ht : TabOk P tab) (hmix : P.follows .mixedOrders = true) {N : Nat} {c : Code} {t : List V} {h : List (Nat × B)} {b : Nat} {K : Ex → List V → List (Nat × B) → Nat → Prop} (hk : stepK P tab N c t h b K) (hb : N ≤ b) :
 AWP P (Lt N) c (Post t.length N K) ⟨tAt t,hAt h,b,t.length⟩:=by
 cases c with
 | cond x c d=>
  replace hk:=evK_of (K:=fun v=>match v with
   | .c (.bool z)=>brK z (codeK P tab N c t h b K) (codeK P tab N d t h b K)
   | _=>False) hk
  split at hk
  case h_2=>cases hk
  next z hz=>
  obtain ⟨h1,h2⟩:=brK_of hk
  exact awp_cond hz (fun e=>codeK_of ht hmix c t h b K hb (h1 e)) (fun e=>codeK_of ht hmix d t h b K hb (h2 e))
 | region id ops draw=>exact regK_of ht hmix hb hk
 | _=>cases hk
theorem cnd (ht : TabOk P tab) (hmix : P.follows .mixedOrders = true) {N : Nat} {c : Code} {t : List V} {h : List (Nat × B)} {b : Nat} {K : Ex → List V → List (Nat × B) → Nat → Prop} (hk : stepK P tab N c t h b K) : StepB P tab N c t h b K:=
 ⟨fun hb=>stepK_of ht hmix hk hb⟩
def aRounds (P : Program) (M0 : Nm) (c : Code) (Q : Ex → St → Prop) : Nat → St → Prop
 | 0,_=>False
 | n + 1,s=>AWP P M0 c (thenB (aRounds P M0 c Q n) Q) s
theorem awp_rounds {M0 : Nm} {c : Code} {Q : Ex → St → Prop} (n : Nat) {s : St} (h : aRounds P M0 c Q n s) : AWP P M0 (.loop c) Q s:=by
 intro rd hrd dep F ids0 w0 a0 hr0
 refine wpIn_loop_rounds n ?_
 have key : ∀ n (s1 : St) ids w a,aRounds P M0 c Q n s1 → Rep F ids w s1 a → KeepA M0 ids0 w0 s.h a0 ids w s1.h a →
  Code.roundsIn (Fw rd) dep P c (fun e a' w'=>∃ x s' ids',x.is e ∧ Q x s' ∧ Rep F ids' w' s' a' ∧ KeepA M0 ids0 w0 s.h a0 ids' w' s'.h a') n a w:=by
  intro n
  induction n with
  | zero=>intro s1 ids w a h;exact h.elim
  | succ n ih=>
   intro s1 ids w a h hr hk
   rw [roundsIn_succ]
   refine wpIn_mono (h rd hrd dep F ids w a hr) ?_
   rintro e a' w' ⟨x,s',ids',hx,hq,hr',hk'⟩
   cases e with
   | normal=>
    cases x with
    | normal=>exact ih s' ids' w' a' hq hr' (hk.trans hk')
    | _=>cases hx
   | exit k=>cases x <;> first | exact ⟨_,s',ids',hx,hq,hr',hk.trans hk'⟩ | exact absurd hx (by intro h;exact h)
   | ret=>cases x <;> first | exact ⟨_,s',ids',hx,hq,hr',hk.trans hk'⟩ | exact absurd hx (by intro h;exact h)
   | _=>cases x <;> cases hx
 exact key n s ids0 w0 a0 h hr0 KeepA.refl
abbrev RoundT:=List V → List (Nat × B) → Nat → Prop
def rZero : RoundT:=fun _ _ _=>False
def rSucc (P : Program) (tab : Tab) (N : Nat) (c : Code) (K : Ex → List V → List (Nat × B) → Nat → Prop) (n : Nat) (ih : RoundT) : RoundT:=fun t h b=>
 codeK P tab N c t h b fun e t h b=>match e with
  | .normal=>ih t h b
  | .exit i=>K (.exit i) t h b
  | .ret=>K .ret t h b
noncomputable def roundsK (P : Program) (tab : Tab) (N : Nat) (c : Code) (K : Ex → List V → List (Nat × B) → Nat → Prop) (n : Nat) : RoundT:=Nat.rec (motive:=fun _=>RoundT) rZero (rSucc P tab N c K) n
theorem loopB_rounds (ht : TabOk P tab) (hmix : P.follows .mixedOrders = true) {N : Nat} {c : Code} {t : List V} {h : List (Nat × B)} {b : Nat} {K : Ex → List V → List (Nat × B) → Nat → Prop} (n : Nat) (hb : N ≤ b) (hk : roundsK P tab N c K n t h b) : LoopB P tab N c t h b K:=by
 refine ⟨hb,awp_rounds n ?_⟩
 have key : ∀ n t' h b,t'.length = t.length → N ≤ b → roundsK P tab N c K n t' h b → aRounds P (Lt N) c (Post t.length N K) n ⟨tAt t',hAt h,b,t'.length⟩:=by
  intro n
  induction n with
  | zero=>intro t' h b _ _ hk;exact hk.elim
  | succ n ih=>
   intro t' h b hl hb hk
   refine AWP.mono (codeK_of ht hmix c t' h b _ hb hk) ?_
   rintro x s ⟨t2,h2,b2,rfl,e1,hb2,hk⟩
   cases x with
   | normal=>exact ih t2 h2 b2 (e1.trans hl) hb2 hk
   | exit i=>exact ⟨t2,h2,b2,rfl,e1.trans hl,hb2,hk⟩
   | ret=>exact ⟨t2,h2,b2,rfl,e1.trans hl,hb2,hk⟩
 exact key n t h b rfl hb hk
end
end Go.Proofs.YtdjnjchpgccbiaaGreat.Abs
