/- The abstract machine, part 19: regions, code, functions: what the reckoning says is so. -/
import Derived.Test.YtdjnjchpgccbiaaGreatC3
namespace Go.Proofs.YtdjnjchpgccbiaaGreat.Abs
set_option linter.unusedVariables false
set_option linter.unusedSimpArgs false
section
variable {P : Program} {tab : Tab}
theorem opsK_of (ops : Array Oper) {n : Nat} {K : List V → List (Nat × B) → Nat → Prop} : ∀ (os : List Oper) (b : Nat) (t : List V) (h : List (Nat × B)),t.length = n → ZrM P tab ops os b t h K →
 YK P tab ops n os b (tAt t) (hAt h) fun T H b'=>∃ t' h',T = tAt t' ∧ H = hAt h' ∧ t'.length = n ∧ b ≤ b' ∧ K t' h' b':=by
 intro os
 induction os with
 | nil=>intro b t h hn hk;exact ⟨t,h,rfl,rfl,hn,Nat.le_refl _,hk⟩
 | cons o os ih=>
  intro b t h hn hk
  have hk : ZdU ops o.guard t (fun t=>Zlz P tab b t h o.op fun v h=>Zl7 o.dst v t fun t=>ZrM P tab ops os (b + 64) t h K) (fun t=>Zl7 o.dst (.c (.tuple #[])) t fun t=>ZrM P tab ops os (b + 64) t h K):=hk
  have up : ∀ {T : Nat → V} {H : Hp},(YK P tab ops n os (b + 64) T H fun T H b'=>∃ t' h',T = tAt t' ∧ H = hAt h' ∧ t'.length = n ∧ b + 64 ≤ b' ∧ K t' h' b') → YK P tab ops n os (b + 64) T H fun T H b'=>∃ t' h',T = tAt t' ∧ H = hAt h' ∧ t'.length = n ∧ b ≤ b' ∧ K t' h' b':=by
   intro T H hx
   exact awpOps_mono hx fun T H b' ⟨t',h',e1,e2,e3,e4,e5⟩=>⟨t',h',e1,e2,e3,by omega,e5⟩
  have hX : ∀ t : List V,t.length = n → (Zlz P tab b t h o.op fun v h=>Zl7 o.dst v t fun t=>ZrM P tab ops os (b + 64) t h K) →
   opB P tab b o (tAt t) (hAt h) fun v h'=>Zkk n o.dst v (tAt t) fun t'=>YK P tab ops n os (b + 64) t' h' fun T H b'=>∃ t' h',T = tAt t' ∧ H = hAt h' ∧ t'.length = n ∧ b ≤ b' ∧ K t' h' b':=by
   intro t hn hk
   refine opB_mono (Zol hk) ?_
   rintro v h' ⟨l,rfl,hk⟩
   obtain ⟨t',e1,hk',e2,e3⟩:=Zgf hk
   have:=up (ih (b + 64) t' l (e1.trans hn) hk')
   rw [e2] at this
   cases hd : o.dst with
   | none=>rw [hd] at this;exact this
   | some d=>rw [hd] at this;exact ⟨by rw [← hn];exact e3 d hd,this⟩
  have hY : ∀ t : List V,t.length = n → (Zl7 o.dst (.c (.tuple #[])) t fun t=>ZrM P tab ops os (b + 64) t h K) →
   Zkk n o.dst .no (tAt t) fun t'=>YK P tab ops n os (b + 64) t' (hAt h) fun T H b'=>∃ t' h',T = tAt t' ∧ H = hAt h' ∧ t'.length = n ∧ b ≤ b' ∧ K t' h' b':=by
   intro t hn hk
   obtain ⟨t',e1,hk',e2,e3⟩:=Zgf hk
   have:=up (ih (b + 64) t' h (e1.trans hn) hk')
   rw [e2] at this
   cases hd : o.dst with
   | none=>rw [hd] at this;exact this
   | some d=>rw [hd] at this;exact ⟨by rw [← hn];exact e3 d hd,this⟩
  unfold ZdU at hk
  show Zhj ops o (tAt t) _ _
  unfold Zhj
  split at hk
  · next hg=>rw [hg];exact hX t hn hk
  · next j want hg=>
    rw [hg]
    dsimp only
    split at hk
    case h_2=>cases hk
    next d hd=>
    rw [hd]
    dsimp only
    split at hk
    case h_3=>cases hk
    case h_2 q hx=>
     rw [hx]
     exact hY t hn hk
    next x hx=>
    rw [hx]
    dsimp only
    have key : ∀ {z : Bool} {X : List V → Prop},ZpE t d (.c (.bool z)) X → ∃ t',t'.length = n ∧ tAt t' = upd (tAt t) d (.c (.bool z)) ∧ X t':=by
     intro z X hs
     obtain ⟨_,t',k1,k2,k3⟩:=ZbK hs
     exact ⟨t',k3.trans hn,k2,k1⟩
    cases want with
    | true=>
     obtain ⟨h1,h2⟩:=ZdX hk
     refine ⟨fun e=>?_,fun e=>?_⟩
     · obtain ⟨t',e1,e2,e3⟩:=key (h1 e)
       rw [← e2];exact hX t' e1 e3
     · obtain ⟨t',e1,e2,e3⟩:=key (h2 e)
       have e2 : tAt t' = upd (tAt t) d (.c (.bool (!true))):=e2
       rw [← e2];exact hY t' e1 e3
    | false=>
     obtain ⟨h1,h2⟩:=ZdX hk
     refine ⟨fun e=>?_,fun e=>?_⟩
     · obtain ⟨t',e1,e2,e3⟩:=key (h2 e)
       rw [← e2];exact hX t' e1 e3
     · obtain ⟨t',e1,e2,e3⟩:=key (h1 e)
       have e2 : tAt t' = upd (tAt t) d (.c (.bool (!false))):=e2
       rw [← e2];exact hY t' e1 e3
 where
 opB_mono {P : Program} {tab : Tab} {b : Nat} {o : Oper} {t : Nat → V} {h : Hp} {K K' : V → Hp → Prop} (hk : opB P tab b o t h K) (hm : ∀ v h',K v h' → K' v h') : opB P tab b o t h K':=by
  rcases hk with hk | hk
  case inr=>exact .inr (hk.mono hm)
  refine .inl ?_
  unfold Ztw at hk ⊢
  split at hk
  · split at hk
    · exact ⟨fun e=>hm _ _ (hk.1 e),fun e=>hm _ _ (hk.2 e)⟩
    · exact hk
  · split at hk
    · obtain ⟨p,h1,h2⟩:=hk;exact ⟨p,h1,hm _ _ h2⟩
    · split at hk
      · exact hk.mono hm
      · exact hk
    · exact hk
  · split at hk
    · exact fun z hz=>hm _ _ (hk z hz)
    · obtain ⟨p,h1,h2⟩:=hk;exact ⟨p,h1,hm _ _ h2⟩
  · obtain ⟨p,h1,h2⟩:=hk;exact ⟨p,h1,hm _ _ h2⟩
 putB_mono {n : Nat} {dst : Option Nat} {v : V} {t : Nat → V} {K K' : (Nat → V) → Prop} (hk : Zkk n dst v t K) (hm : ∀ t,K t → K' t) : Zkk n dst v t K':=by
  cases dst with
  | none=>exact hm _ hk
  | some d=>exact ⟨hk.1,hm _ hk.2⟩
 awpOps_mono {P : Program} {tab : Tab} {ops : Array Oper} {n : Nat} : ∀ {os : List Oper} {b : Nat} {t : Nat → V} {h : Hp} {K K' : (Nat → V) → Hp → Nat → Prop},YK P tab ops n os b t h K → (∀ t h b,K t h b → K' t h b) → YK P tab ops n os b t h K'
  | [],b,t,h,K,K',hk,hm=>hm _ _ _ hk
  | o :: os,b,t,h,K,K',hk,hm=>by
   have h1 : ∀ t,(opB P tab b o t h fun v h'=>Zkk n o.dst v t fun t'=>YK P tab ops n os (b + 64) t' h' K) → opB P tab b o t h fun v h'=>Zkk n o.dst v t fun t'=>YK P tab ops n os (b + 64) t' h' K':=
    fun t hx=>opB_mono hx fun v h' hy=>putB_mono hy fun t' hz=>awpOps_mono hz hm
   have h2 : ∀ t,(Zkk n o.dst .no t fun t'=>YK P tab ops n os (b + 64) t' h K) → Zkk n o.dst .no t fun t'=>YK P tab ops n os (b + 64) t' h K':=
    fun t hy=>putB_mono hy fun t' hz=>awpOps_mono hz hm
   unfold YK Zhj at hk ⊢
   split at hk
   · exact h1 _ hk
   · split at hk
     · split at hk
       · exact ⟨fun e=>h1 _ (hk.1 e),fun e=>h2 _ (hk.2 e)⟩
       · exact h2 _ hk
       · exact hk
     · exact hk
theorem Zqz {nm : Nat} {t : List V} {op : Op} {K : Dyn → Prop} (hk : Zuh nm t op K) : (YS nm (evS (tAt t)) op).x = false ∧ K (YS nm (evS (tAt t)) op):=by
 unfold Zuh at hk
 generalize YS nm (evS (tAt t)) op = d at hk
 obtain ⟨hr,hw,nw,x⟩:=d
 replace hk:=Zt (Zt (Zt hk))
 cases x with
 | true=>cases hk
 | false=>exact ⟨rfl,hk⟩
theorem Zly {nm : Nat} {t : List V} {h : List (Nat × B)} {o : Oper} {K : V → List (Nat × B) → Dyn → Prop} (hk : Zjh P tab nm t h o.op K) :
 ∃ d v u l,DOp P tab nm o.op (evS (tAt t)) d (hAt h) v u ∧ hAt l = Q1 (hAt h) u ∧ K v l d:=by
 unfold Zjh at hk
 split at hk
 · obtain ⟨d,v,u,l,hx,hr,hl,hk⟩:=hk
   exact ⟨d,v,u,l,.inr ⟨hx,hr⟩,hl,ZS (K:=fun v=>K v l d) hk⟩
 unfold ZlK at hk
 split at hk
 · next c x y ho=>
   replace hk:=ZD hk
   split at hk
   case h_2=>cases hk
   next z hz=>
   obtain ⟨h1,h2⟩:=ZdX hk
   cases z with
   | true=>exact ⟨_,_,[],h,by left;unfold ZoM;rw [ho];exact ⟨⟨true,hz,rfl⟩,rfl,rfl⟩,rfl,ZS (K:=fun v=>K v h _) (ZD (K:=fun v=>ZbI v fun v=>K v h _) (h1 rfl))⟩
   | false=>exact ⟨_,_,[],h,by left;unfold ZoM;rw [ho];exact ⟨⟨false,hz,rfl⟩,rfl,rfl⟩,rfl,ZS (K:=fun v=>K v h _) (ZD (K:=fun v=>ZbI v fun v=>K v h _) (h2 rfl))⟩
 · next f args tys ho=>
   replace hk:=ZD hk
   replace hk:=Zeq hk
   obtain ⟨g,a,c,hf,hk⟩:=Zlh hk
   replace hk:=Zt hk
   obtain ⟨d,v,u,l,hx,hr,hl,hk⟩:=hk
   exact ⟨d,v,u,l,by left;unfold ZoM;rw [ho];exact ⟨g,a,c,hf,hx,hr⟩,hl,ZS (K:=fun v=>K v l d) hk⟩
 · next h1 h2=>
   obtain ⟨hx,hk⟩:=Zqz hk
   obtain ⟨v,h',hs,hk⟩:=Zi3 hk
   obtain ⟨u,hu,hd⟩:=Zp3 (P:=P) hs hx
   exact ⟨_,v,u,h',hd,hu,hk⟩
theorem Zo9 (ops : Array Oper) {n b0 : Nat} {K : List Dyn → List V → List (Nat × B) → Nat → Prop} : ∀ (os : List Oper) (i : Nat) (t : List V) (h : List (Nat × B)) (acc : List Dyn),t.length = n → Zpf P tab ops os (b0 + 64 * i) t h acc K →
 ZgL P tab ops n b0 i os (tAt t) (hAt h) acc fun ds T H=>∃ t' h',T = tAt t' ∧ H = hAt h' ∧ t'.length = n ∧ K ds t' h' (b0 + 64 * (i + os.length)):=by
 intro os
 induction os with
 | nil=>intro i t h acc hn hk;exact ⟨t,h,rfl,rfl,hn,hk⟩
 | cons o os ih=>
  intro i t h acc hn hk
  have hk : ZdU ops o.guard t (fun t=>Zjh P tab (b0 + 64 * i) t h o.op fun v h d=>Zl7 o.dst v t fun t=>Zpf P tab ops os (b0 + 64 * i + 64) t h (acc ++ [d]) K) (fun t=>Zl7 o.dst (.c (.tuple #[])) t fun t=>Zpf P tab ops os (b0 + 64 * i + 64) t h (acc ++ [⟨[],[],[],false⟩]) K):=hk
  have e64 : b0 + 64 * i + 64 = b0 + 64 * (i + 1):=by omega
  rw [e64] at hk
  have el : i + 1 + os.length = i + (o :: os).length:=by simp;omega
  obtain ⟨t',g1,g2,hg⟩:=Zmd hk
  rcases hg with ⟨hg,hk⟩ | ⟨hg,hk⟩
  · obtain ⟨d,v,u,l,hd,hl,hk⟩:=Zly hk
    obtain ⟨t2,e1,hk',e2,e3⟩:=Zgf hk
    refine ⟨true,hg,fun d' hd'=>by rw [← hn,← g1];exact e3 d' hd',fun _=>⟨d,v,u,by rw [← g2];exact hd,?_⟩,fun e=>by cases e⟩
    have:=ih (i + 1) t2 l (acc ++ [d]) (by rw [e1,g1,hn]) hk'
    rw [el] at this
    rw [← hl,← g2,← e2];exact this
  · obtain ⟨t2,e1,hk',e2,e3⟩:=Zgf hk
    refine ⟨false,hg,fun d' hd'=>by rw [← hn,← g1];exact e3 d' hd',fun e=>(by cases e),fun _=>?_⟩
    have:=ih (i + 1) t2 h (acc ++ [_]) (by rw [e1,g1,hn]) hk'
    rw [el] at this
    rw [← g2,← e2];exact this
def Ztx (n N : Nat) (K : Ex → List V → List (Nat × B) → Nat → Prop) (x : Ex) (s : St) : Prop:=∃ t' h' b',s = ⟨tAt t',hAt h',b',t'.length⟩ ∧ t'.length = n ∧ N ≤ b' ∧ K x t' h' b'
theorem regK_of (ht : Zk P tab) (hmix : P.follows .mixedOrders = true) {N : Nat} {id : Nat} {ops : Array Oper} {draw : Bool} {t : List V} {h : List (Nat × B)} {b : Nat} {K : Ex → List V → List (Nat × B) → Nat → Prop} (hb : N ≤ b) (hk : Zts P tab ops draw t h b K) :
 AWP P (Lt N) (.region id ops draw) (Ztx t.length N K) ⟨tAt t,hAt h,b,t.length⟩:=by
 unfold Zts at hk
 split at hk
 · exact hk.elim
 next hno=>
 cases draw with
 | false=>
  refine ZjZ ht (Zes hb) hno (opsK_of.awpOps_mono (opsK_of ops ops.toList b t h rfl hk) ?_)
  rintro T H b' ⟨t',h',rfl,rfl,e1,hbb,hk⟩
  exact ⟨t',h',b',by rw [e1],e1,Nat.le_trans hb hbb,hk⟩
 | true=>
  refine Zoh ht hmix (Zes hb) hno (regK_of.drawB_mono (Zo9 ops (b0:=b) ops.toList 0 t h [] rfl hk) ?_)
  rintro ds T H ⟨t',h',rfl,rfl,e1,hok,hk⟩
  refine ⟨hok,t',h',_,by rw [e1],e1,Nat.le_trans hb (Nat.le_add_right _ _),?_⟩
  rw [Nat.zero_add,Array.length_toList] at hk
  exact hk
 where
 drawB_mono {P : Program} {tab : Tab} {ops : Array Oper} {n b : Nat} : ∀ {os : List Oper} {i : Nat} {t : Nat → V} {h : Hp} {acc : List Dyn} {K K' : List Dyn → (Nat → V) → Hp → Prop},ZgL P tab ops n b i os t h acc K → (∀ ds t h,K ds t h → K' ds t h) → ZgL P tab ops n b i os t h acc K'
  | [],i,t,h,acc,K,K',hk,hm=>hm _ _ _ hk
  | o :: os,i,t,h,acc,K,K',hk,hm=>by
   obtain ⟨x,h1,h2,h3,h4⟩:=hk
   refine ⟨x,h1,h2,fun e=>?_,fun e=>drawB_mono (h4 e) hm⟩
   obtain ⟨d,v,u,h5,h6⟩:=h3 e
   exact ⟨d,v,u,h5,drawB_mono h6 hm⟩
theorem Qa (ht : Zk P tab) (hmix : P.follows .mixedOrders = true) {N : Nat} : ∀ (c : Code) (t : List V) (h : List (Nat × B)) (b : Nat) (K : Ex → List V → List (Nat × B) → Nat → Prop),N ≤ b → Zcz P tab N c t h b K → AWP P (Lt N) c (Ztx t.length N K) ⟨tAt t,hAt h,b,t.length⟩:=by
 intro c
 induction c with
 | skip=>exact fun t h b K hb hk=>ZoB ⟨t,h,b,rfl,rfl,hb,hk⟩
 | label l=>exact fun t h b K hb hk=>ZlM ⟨t,h,b,rfl,rfl,hb,hk⟩
 | seq c d ih1 ih2=>
  intro t h b K hb hk
  refine Zp2 (AWP.mono (ih1 t h b _ hb hk) fun x s' hx=>?_)
  obtain ⟨t',h',b',rfl,e1,hb',hk⟩:=hx
  cases x with
  | normal=>exact e1 ▸ ih2 t' h' b' K hb' hk
  | exit i=>exact ⟨t',h',b',rfl,e1,hb',hk⟩
  | ret=>exact ⟨t',h',b',rfl,e1,hb',hk⟩
 | cond x c d ih1 ih2=>
  intro t h b K hb hk
  obtain ⟨hk⟩:=hk
  exact hk hb
 | block id c ih=>
  intro t h b K hb hk
  refine Zld (AWP.mono (ih t h b _ hb hk) fun x s' hx=>?_)
  obtain ⟨t',h',b',rfl,e1,hb',hk⟩:=hx
  cases x with
  | normal=>exact ⟨t',h',b',rfl,e1,hb',hk⟩
  | ret=>exact ⟨t',h',b',rfl,e1,hb',hk⟩
  | exit k=>
   show ZiJ id _ (.exit k) _
   unfold ZiJ
   dsimp only at hk ⊢
   split at hk
   · next e=>rw [if_pos (Nat.eq_of_beq_eq_true e)];exact ⟨t',h',b',rfl,e1,hb',hk⟩
   · next e=>rw [if_neg (Nat.ne_of_beq_eq_false e)];exact ⟨t',h',b',rfl,e1,hb',hk⟩
 | exit i=>exact fun t h b K hb hk=>ZnJ ⟨t,h,b,rfl,rfl,hb,hk⟩
 | ret=>exact fun t h b K hb hk=>Zp1 ⟨t,h,b,rfl,rfl,hb,hk⟩
 | region id ops draw=>
  intro t h b K hb hk
  have hk : Zip P tab N id ops draw t h b K:=hk
  unfold Zip at hk
  split at hk
  · obtain ⟨hk⟩:=hk
    exact hk hb
  · exact regK_of ht hmix hb hk
 | loop c ih=>
  intro t h b K hb hk
  obtain ⟨_,hk⟩:=hk
  exact hk
 | rangeFunc f ps c d _ _=>exact fun t h b K hb ⟨_,hk⟩=>hk
 | scope c ih=>exact fun t h b K hb hk=>Znm (ih t h b K hb hk)
 | _=>exact fun t h b K hb hk=>hk.elim
theorem Zgh {t : List V} {h : List (Nat × B)} : ∀ {rs : List ResultVar} {K : List V → Prop},Ztt tab t h rs K → Zn2 tab (tAt t) (hAt h) rs K
 | [],_,hk=>hk
 | .tmp i :: rs,K,hk=>Zgh (rs:=rs) (K:=fun xs=>K (_ :: xs)) (ZS (K:=fun x=>Ztt tab t h rs fun xs=>K (x :: xs)) hk)
 | .cell i T :: rs,K,hk=>by
  obtain ⟨v,hv,hk⟩:=Zjw (K:=fun x=>Ztt tab t h rs fun xs=>K (x :: xs)) hk
  exact ⟨v,hv,Zgh (rs:=rs) (K:=fun xs=>K (v :: xs)) hk⟩
theorem ZaP {t : Nat → V} {h : Hp} : ∀ {rs : List ResultVar} {K K' : List V → Prop},Zn2 tab t h rs K → (∀ xs,K xs → K' xs) → Zn2 tab t h rs K'
 | [],_,_,hk,hm=>hm _ hk
 | .tmp i :: rs,K,K',hk,hm=>ZaP (rs:=rs) (K:=fun xs=>K (t i :: xs)) hk fun xs=>hm _
 | .cell i T :: rs,K,K',hk,hm=>by
  obtain ⟨v,hv,hk⟩:=hk
  exact ⟨v,hv,ZaP (rs:=rs) (K:=fun xs=>K (v :: xs)) hk fun xs=>hm _⟩
theorem ZlF {xs : List V} {K : V → Prop} (hk : Zt9 xs K) : K (one xs):=by
 unfold Zt9 at hk
 unfold one
 split at hk
 · exact hk
 · next h => split
             · next x=>exact absurd rfl (h x)
             · exact hk
theorem ZfN : ∀ {l : List V} {n : Nat} {K : List V → Prop},bodyK.fillK l n K → ∃ t,K t ∧ t.length = n ∧ l.length ≤ n ∧ tAt t = fun i=>l.getD i .un
 | x :: l,n + 1,K,hk=>by
  obtain ⟨t,h1,h2,h3,h4⟩:=ZfN (l:=l) (K:=fun t=>K (x :: t)) hk
  refine ⟨x :: t,h1,by simp [h2],by simpa using h3,?_⟩
  funext i
  cases i with
  | zero=>rfl
  | succ i=>have:=congrFun h4 i;simpa [tAt] using this
 | [],n + 1,K,hk=>by
  obtain ⟨t,h1,h2,h3,h4⟩:=ZfN (l:=[]) (K:=fun t=>K (.un :: t)) hk
  refine ⟨.un :: t,h1,by simp [h2],by simp,?_⟩
  funext i
  cases i with
  | zero=>rfl
  | succ i=>have:=congrFun h4 i;simpa [tAt] using this
 | [],0,K,hk=>⟨[],hk,rfl,by simp,by funext i;rfl⟩
 | x :: l,0,K,hk=>by cases hk
noncomputable def fnK (P : Program) (tab : Tab) (N : Nat) (fn : Func) (args : List V) (h : List (Nat × B)) (b : Nat) (K : V → List (Nat × B) → Nat → Prop) : Prop:=
 match fn.body with
 | some c=>bodyK P tab N c fn.ntmps fn.results.toList args h b K
 | none=>False
theorem Zlq (ht : Zk P tab) (hmix : P.follows .mixedOrders = true) {N : Nat} {fn : Func} {args : List V} {h : List (Nat × B)} {b : Nat} {K : V → List (Nat × B) → Nat → Prop} (hb : N ≤ b) (hk : fnK P tab N fn args h b K) :
 ∃ c,fn.body = some c ∧ args.length ≤ fn.ntmps ∧ AWP P (Lt N) c (fun x s=>(match x with | .exit _=>False | _=>True) ∧ Zn2 tab s.t s.h fn.results.toList fun xs=>∃ h' ,s.h = hAt h' ∧ N ≤ s.b ∧ K (one xs) h' s.b) ⟨fun i=>args.getD i .un,hAt h,b,fn.ntmps⟩:=by
 unfold fnK at hk
 split at hk
 case h_2=>cases hk
 next c hc=>
 obtain ⟨t,hk,h1,h2,h3⟩:=ZfN hk
 refine ⟨c,hc,h2,?_⟩
 rw [← h3,← h1]
 refine AWP.mono (Qa ht hmix c t h b _ hb hk) ?_
 rintro x s ⟨t',h',b',rfl,e1,hb',hk⟩
 cases x with
 | exit i=>exact hk.elim
 | normal=>exact ⟨trivial,ZaP (Zgh hk) fun xs hx=>⟨h',rfl,hb',ZlF hx⟩⟩
 | ret=>exact ⟨trivial,ZaP (Zgh hk) fun xs hx=>⟨h',rfl,hb',ZlF hx⟩⟩
theorem Zqq : Lt 0 = fun _=>False:=by funext k;simp [Lt]
theorem PSpec.of (ht : Zk P tab) (hmix : P.follows .mixedOrders = true) {f : FuncId} {fn : Func} (hf : P.funcs[f]? = some fn) (hname : (fn.name == "runtime.NumGoroutine") = false)
 {args : List V} {r : V} (ha : ∀ x ∈ args,x.Below fun _=>False) (hr : r.Below fun _=>False) (h : fnK P tab 0 fn args [] 0 fun v h' b=>RetB h' v r) : PSpec P f args r:=by
 obtain ⟨c,hc,hl,hw⟩:=Zlq ht hmix (Nat.le_refl _) h
 rw [Zqq] at hw
 refine PSpec.of_body ht hf hc hname ha hr hl (AWP.mono hw ?_)
 rintro x s ⟨h1,h2⟩
 refine ⟨h1,ZaP h2 ?_⟩
 rintro xs ⟨h',e,_,hk⟩
 cases hk with
 | same e'=>rw [e'];exact .same r hr
 | frz hf=>rw [e];exact hf
end
end Go.Proofs.YtdjnjchpgccbiaaGreat.Abs
