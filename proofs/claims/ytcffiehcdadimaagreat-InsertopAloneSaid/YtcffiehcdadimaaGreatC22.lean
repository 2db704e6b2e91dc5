/- loopG, begun with an empty slice that is to grow (own work). -/
import Derived.Test.YtcffiehcdadimaaGreatC21
namespace Go.Proofs.YtcffiehcdadimaaGreat.Abs
open Go.Proofs
section
variable {P : Program} {tab : Tab}
theorem Sub.slot {M0 : Nm} {t : List V} {h : Hp} {b n : Nat} (j : Nat) (v : V) (hj : j < t.length) (hjn : j < n) (hv : ∀ (A : Nat → Prop) (ids : Nat → Nat × Nat) (w : World) (x : Value),RepV A ids w (tAt t j) x → RepV A ids w v x) (hb : v.Below (Lt b)) :
 Sub M0 ⟨tAt t,h,b,n⟩ ⟨tAt (t.set j v),h,b,n⟩:=by
 intro F ids w a hr
 refine ⟨ids,⟨hr.heap,fun i=>?_,hr.size,fun i hi=>?_,fun i=>?_,hr.defers⟩,Keep.refl⟩
 · show RepV _ ids w (tAt (t.set j v) i) _
   rw [tAt_set _ _ _ _ hj]
   have:=hr.tmps i
   split
   · next e=>subst e;exact hv _ _ _ _ this
   · exact this
 · show tAt (t.set j v) i = _
   rw [tAt_set _ _ _ _ hj,if_neg (fun e=>by subst e;exact absurd hi (Nat.not_le.2 hjn))]
   exact hr.out i hi
 · show (tAt (t.set j v) i).Below _
   rw [tAt_set _ _ _ _ hj]
   split
   · exact hb
   · exact hr.below i
theorem rep_ac0 {sz sz' n : Nat} {A : Nat → Prop} {ids : Nat → Nat × Nat} {w : World} {x : Value} (h : RepV A ids w (.lst sz [] true) x) : RepV A ids w (.ac n sz' 0) x:=by
 cases h with
 | lst _ _ _ _ _ hc=>obtain ⟨a,rfl⟩:=hc rfl;exact .ac0 _ _ _
theorem loopG1 (ht : TabOk P tab) (hmix : P.follows .mixedOrders = true) {α : Type} {N : Nat} {c : Code} {t : List V} {h : List (Nat × B)} {b : Nat} {K : Ex → List V → List (Nat × B) → Nat → Prop}
 (j n sz : Nat) (lo hi : Nat) (S O ks kh : List Nat) (ch : α → List (Nat × V)) (hc Fm : α → List (Nat × B)) (I : α → Prop) (μ : α → Nat) (ρ : List (Nat × Nat)) (x : α) (hb : Nat.ble N b = true) (hj : tAt t j = .lst sz [] true) (hjt : Nat.blt j t.length = true) (hn : Nat.blt n b = true) (h0 : I x) (hgh : ∀ p ∈ Fm x,p.2.real = false ∧ p.1 < b ∧ p.2.Below (Lt b))
 (round : ∀ x,I x → RoundG lo hi S O P tab N c b K I μ (fun x=>putsT (ch x) (keepT 0 ks t)) (fun x=>hc x ++ keepH kh h) Fm x)
 (hs : subKO O ρ N b (putsT (ch x) (keepT 0 ks t)) (hc x ++ keepH kh h) (t.set j (.ac n sz 0)) h) : LoopB P tab N c t h b K:=by
 have e : (t.set j (.ac n sz 0)).length = t.length:=by simp
 have h1:=(subKO_of (b':=b) hs).1
 rw [e] at h1
 have hj2 : j < t.length:=by rw [Nat.blt_eq] at hjt;exact hjt
 have hn2 : n < b:=by rw [Nat.blt_eq] at hn;exact hn
 refine loopG ht hmix lo hi S O ks kh ch hc Fm I μ x hb h0 (Sub.ghost (Sub.comp (Sub.slot j (.ac n sz 0) hj2 hj2 (fun A ids w y hy=>?_) (.ac _ _ _ hn2)) h1) hgh) round
 rw [hj] at hy
 exact rep_ac0 hy
end
end Go.Proofs.YtcffiehcdadimaaGreat.Abs
