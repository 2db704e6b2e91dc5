/- The abstract machine, part 35: families of bundles of blocks; any bundle may be the open one. -/
import Derived.Test.YtcffiehcdadimaaGreatC19
namespace Go.Proofs.YtcffiehcdadimaaGreat.Abs
set_option linter.unusedVariables false
set_option linter.unusedSimpArgs false
def bs (eo lo k cur j : Nat) : Nat:=if j = cur then eo else lo + k * j
def famO (bb : Nat → Nat → Nat → B) (eo k cur : Nat) : List (Nat × B):=(List.range k).map fun i=>(eo + i,bb cur eo i)
def famR (bb : Nat → Nat → Nat → B) (lo k m cur : Nat) : List (Nat × B):=((List.range m).filter fun j=>!Nat.beq j cur).flatMap fun j=>(List.range k).map fun i=>(lo + k * j + i,bb j (lo + k * j) i)
structure Bun (k : Nat) (S : List Nat) (bb : Nat → Nat → Nat → B) : Prop where
 inb : ∀ j a i,i < k → ∀ n ∈ namesB (bb j a i),(a ≤ n ∧ n < a + k) ∨ n ∈ S
 ren : ∀ j a a' i (σ : Nat → Nat),i < k → (∀ i,i < k → σ (a + i) = a' + i) → (∀ n ∈ S,σ n = n) → renB σ (bb j a i) = bb j a' i
theorem mem_famO {bb : Nat → Nat → Nat → B} {eo k cur : Nat} {p : Nat × B} : p ∈ famO bb eo k cur ↔ ∃ i,i < k ∧ p = (eo + i,bb cur eo i):=by
 unfold famO
 rw [List.mem_map]
 exact ⟨fun ⟨i,hi,e⟩=>⟨i,List.mem_range.1 hi,e.symm⟩,fun ⟨i,hi,e⟩=>⟨i,List.mem_range.2 hi,e.symm⟩⟩
theorem mem_famR {bb : Nat → Nat → Nat → B} {lo k m cur : Nat} {p : Nat × B} : p ∈ famR bb lo k m cur ↔ ∃ j i,j < m ∧ j ≠ cur ∧ i < k ∧ p = (lo + k * j + i,bb j (lo + k * j) i):=by
 unfold famR
 rw [List.mem_flatMap]
 constructor
 · rintro ⟨j,hj,hp⟩
   obtain ⟨h1,h2⟩:=List.mem_filter.1 hj
   obtain ⟨i,hi,e⟩:=List.mem_map.1 hp
   refine ⟨j,i,List.mem_range.1 h1,fun e=>?_,List.mem_range.1 hi,e.symm⟩
   subst e;rw [Nat.beq_refl] at h2;cases h2
 · rintro ⟨j,i,h1,h2,h3,rfl⟩
   refine ⟨j,List.mem_filter.2 ⟨List.mem_range.2 h1,?_⟩,List.mem_map.2 ⟨i,List.mem_range.2 h3,rfl⟩⟩
   cases hb : Nat.beq j cur with
   | true=>exact absurd (Nat.eq_of_beq_eq_true hb) h2
   | false=>rfl
theorem mul_apart {k i j : Nat} (h : i ≠ j) : k * i + k ≤ k * j ∨ k * j + k ≤ k * i:=by
 rcases Nat.lt_or_gt_of_ne h with h | h
 · left;rw [← Nat.mul_succ];exact Nat.mul_le_mul_left k h
 · right;rw [← Nat.mul_succ];exact Nat.mul_le_mul_left k h
theorem mul_in {k j m : Nat} (h : j < m) : k * j + k ≤ k * m:=by rw [← Nat.mul_succ];exact Nat.mul_le_mul_left k h
theorem famO_nd (bb : Nat → Nat → Nat → B) (eo k cur : Nat) : ((famO bb eo k cur).map Prod.fst).Nodup:=by
 unfold famO
 rw [List.map_map]
 exact List.pairwise_map.2 (List.nodup_range.imp fun h e=>h (by simp only [Function.comp] at e;omega))
theorem famR_nd (bb : Nat → Nat → Nat → B) (lo k m cur : Nat) : ((famR bb lo k m cur).map Prod.fst).Nodup:=by
 unfold famR
 rw [List.map_flatMap]
 generalize hl : (List.range m).filter (fun j=>!Nat.beq j cur) = l
 have hnd : l.Nodup:=by subst hl;exact List.nodup_range.filter _
 clear hl
 induction l with
 | nil=>exact List.nodup_nil
 | cons j l ih=>
  obtain ⟨h1,h2⟩:=List.nodup_cons.1 hnd
  rw [List.flatMap_cons,List.nodup_append]
  refine ⟨?_,ih h2,fun a ha c hc e=>?_⟩
  · rw [List.map_map]
    exact List.pairwise_map.2 (List.nodup_range.imp fun h e=>h (by simp only [Function.comp] at e;omega))
  · subst e
    rw [List.map_map] at ha
    obtain ⟨i,hi,e1⟩:=List.mem_map.1 ha
    obtain ⟨j',hj',hc⟩:=List.mem_flatMap.1 hc
    rw [List.map_map] at hc
    obtain ⟨i',hi',e2⟩:=List.mem_map.1 hc
    simp only [Function.comp] at e1 e2
    have hne : j ≠ j':=fun e=>h1 (e ▸ hj')
    have:=List.mem_range.1 hi
    have:=List.mem_range.1 hi'
    rcases mul_apart (k:=k) hne with h | h <;> omega
def swp (eo lo k cur t n : Nat) : Nat:=
 if cur = t then n else if eo ≤ n ∧ n < eo + k then lo + k * t + (n - eo) else if lo + k * cur ≤ n ∧ n < lo + k * cur + k then eo + (n - (lo + k * cur)) else if lo + k * t ≤ n ∧ n < lo + k * t + k then lo + k * cur + (n - (lo + k * t)) else n
section
variable {eo lo k m cur t : Nat} (ho : eo + k ≤ lo) (hc : cur < m) (ht : t < m)
include ho in
theorem swp_inj (a b : Nat) (e : swp eo lo k cur t a = swp eo lo k cur t b) : a = b:=by
 unfold swp at e
 by_cases h : cur = t
 · rw [if_pos h,if_pos h] at e;exact e
 · rw [if_neg h,if_neg h] at e
   have h3:=mul_apart (k:=k) h
   generalize k * cur = A at *
   generalize k * t = C at *
   repeat' split at e
   all_goals omega
include ho hc ht in
theorem swp_out {n : Nat} (h : n < eo ∨ lo + k * m ≤ n) : swp eo lo k cur t n = n:=by
 unfold swp
 have h1:=mul_in (k:=k) hc
 have h2:=mul_in (k:=k) ht
 generalize k * cur = A at *
 generalize k * t = C at *
 generalize k * m = M at *
 split
 · rfl
 rw [if_neg (by omega),if_neg (by omega),if_neg (by omega)]
include ho in
theorem swp_bs {j i : Nat} (hi : i < k) : swp eo lo k cur t (bs eo lo k t j + i) = bs eo lo k cur j + i:=by
 unfold swp bs
 by_cases h : cur = t
 · rw [if_pos h,h]
 rw [if_neg h]
 have h3:=mul_apart (k:=k) h
 by_cases h4 : j = t
 · subst h4
   rw [if_pos rfl,if_pos ⟨by omega,by omega⟩,if_neg (fun e=>h e.symm)]
   omega
 rw [if_neg h4]
 have h5:=mul_apart (k:=k) h4
 by_cases h6 : j = cur
 · subst h6
   rw [if_pos rfl,if_neg (by omega),if_pos ⟨by omega,by omega⟩]
   omega
 rw [if_neg h6]
 have h7:=mul_apart (k:=k) h6
 rw [if_neg (by omega),if_neg (by omega),if_neg (by omega)]
end
def fixH (eo hi b : Nat) (H : List (Nat × B)) : Bool:=H.all fun p=>outN eo hi p.1 && Nat.blt p.1 b && (namesB p.2).all fun n=>outN eo hi n && Nat.blt n b
section
variable {P : Program} {tab : Tab}
theorem fam_shut {bb : Nat → Nat → Nat → B} {k m lo b cur : Nat} {S : List Nat} (hB : Bun k S bb) (hb : lo + k * m ≤ b) (hS : ∀ n ∈ S,n < b) : Shut lo (lo + k * m) S b (famR bb lo k m cur):=by
 refine ⟨fun p hp=>?_,fun p hp n hn=>?_,famR_nd ..,hb,hS⟩
 · obtain ⟨j,i,h1,h2,h3,rfl⟩:=mem_famR.1 hp
   have:=mul_in (k:=k) h1
   dsimp only
   omega
 · obtain ⟨j,i,h1,h2,h3,rfl⟩:=mem_famR.1 hp
   have:=mul_in (k:=k) h1
   rcases hB.inb j _ i h3 n hn with h | h
   · left;omega
   · exact .inr h
theorem fam_sub {N b k m eo lo cur t : Nat} {S : List Nat} {bb : Nat → Nat → Nat → B} (hB : Bun k S bb) (ho : eo + k ≤ lo) (hN : N ≤ eo) (hb : lo + k * m ≤ b) (hS : (S.all fun n=>outN eo (lo + k * m) n && Nat.blt n b) = true) (hc : cur < m) (ht : t < m)
 {T : List V} {A : List (Nat × (Nat → B))} {Hc : List (Nat × B)} (hT : ((namesOf T).all fun n=>outN eo (lo + k * m) n && Nat.blt n b) = true) (hA : ∀ p ∈ A,outN eo (lo + k * m) p.1 = true ∧ p.1 < b ∧ (p.2 t).Below (Lt b) ∧ renB (swp eo lo k cur t) (p.2 t) = p.2 cur)
 (hH : fixH eo (lo + k * m) b Hc = true) (hnd : noTwice (A.map Prod.fst ++ Hc.map Prod.fst) = true) :
 Sub (Lt N) ⟨tAt T,hAt ((A.map (fun p=>(p.1,p.2 cur)) ++ Hc) ++ (famO bb eo k cur ++ famR bb lo k m cur)),b,T.length⟩ ⟨tAt T,hAt ((A.map (fun p=>(p.1,p.2 t)) ++ Hc) ++ (famO bb eo k t ++ famR bb lo k m t)),b,T.length⟩:=by
 have hfx : ∀ n,outN eo (lo + k * m) n = true → swp eo lo k cur t n = n:=fun n hn=>swp_out ho hc ht (outN_iff.1 hn)
 have hcm:=mul_in (k:=k) hc
 have htm:=mul_in (k:=k) ht
 have hSf : ∀ n ∈ S,swp eo lo k cur t n = n:=fun n hn=>by
  have:=List.all_eq_true.1 hS n hn
  rw [Bool.and_eq_true] at this
  exact hfx n this.1
 have hSb : ∀ n ∈ S,n < b:=fun n hn=>by
  have:=List.all_eq_true.1 hS n hn
  rw [Bool.and_eq_true,Nat.blt_eq] at this
  exact this.2
 have hbun : ∀ j i,j < m → i < k → renB (swp eo lo k cur t) (bb j (bs eo lo k t j) i) = bb j (bs eo lo k cur j) i:=fun j i hj hi=>hB.ren j _ _ i _ hi (fun i hi=>swp_bs ho hi) hSf
 have hbel : ∀ j i,j < m → i < k → bs eo lo k t j + i < b ∧ (bb j (bs eo lo k t j) i).Below (Lt b):=fun j i hj hi=>by
  have h1:=mul_in (k:=k) hj
  have h2 : bs eo lo k t j + k ≤ b:=by unfold bs;split <;> omega
  refine ⟨by omega,belowB_names fun n hn=>?_⟩
  rcases hB.inb j _ i hi n hn with h | h
  · omega
  · exact hSb n h
 have hndo : (((A.map (fun p=>(p.1,p.2 cur)) ++ Hc) ++ (famO bb eo k cur ++ famR bb lo k m cur)).map Prod.fst).Nodup:=by
  have hout : ∀ n ∈ A.map Prod.fst ++ Hc.map Prod.fst,n < eo ∨ lo + k * m ≤ n:=fun n hn=>by
   rcases List.mem_append.1 hn with h | h
   · obtain ⟨p,hp,rfl⟩:=List.mem_map.1 h
     exact outN_iff.1 (hA p hp).1
   · obtain ⟨p,hp,rfl⟩:=List.mem_map.1 h
     have:=List.all_eq_true.1 hH p hp
     rw [Bool.and_eq_true,Bool.and_eq_true] at this
     exact outN_iff.1 this.1.1
  have e1 : (A.map (fun p=>(p.1,p.2 cur))).map Prod.fst = A.map Prod.fst:=by rw [List.map_map];rfl
  rw [List.map_append,List.map_append,e1,List.map_append,List.nodup_append]
  refine ⟨noTwice_nodup hnd,List.nodup_append.2 ⟨famO_nd ..,famR_nd ..,fun a ha c hc' e=>?_⟩,fun a ha c hc' e=>?_⟩
  · subst e
    obtain ⟨p,hp,rfl⟩:=List.mem_map.1 ha
    obtain ⟨q,hq,e⟩:=List.mem_map.1 hc'
    obtain ⟨i,h1,rfl⟩:=mem_famO.1 hp
    obtain ⟨j,i',h2,h3,h4,rfl⟩:=mem_famR.1 hq
    dsimp only at e
    omega
  · subst e
    have h0:=hout a ha
    rcases List.mem_append.1 hc' with h | h
    · obtain ⟨p,hp,rfl⟩:=List.mem_map.1 h
      obtain ⟨i,h1,rfl⟩:=mem_famO.1 hp
      dsimp only at h0
      have : k ≤ k * m:=by omega
      omega
    · obtain ⟨p,hp,rfl⟩:=List.mem_map.1 h
      obtain ⟨j,i',h2,h3,h4,rfl⟩:=mem_famR.1 hp
      have:=mul_in (k:=k) h2
      dsimp only at h0
      omega
 have hat : ∀ n c,(n,c) ∈ ((A.map (fun p=>(p.1,p.2 cur)) ++ Hc) ++ (famO bb eo k cur ++ famR bb lo k m cur)) → hAt ((A.map (fun p=>(p.1,p.2 cur)) ++ Hc) ++ (famO bb eo k cur ++ famR bb lo k m cur)) n = some c:=fun n c hm=>hAt_of_mem hndo _ hm
 have hfam : ∀ j i,j < m → i < k → (bs eo lo k cur j + i,bb j (bs eo lo k cur j) i) ∈ famO bb eo k cur ++ famR bb lo k m cur:=fun j i hj hi=>by
  unfold bs
  by_cases e : j = cur
  · rw [if_pos e];exact List.mem_append_left _ (mem_famO.2 ⟨i,hi,by rw [e]⟩)
  · rw [if_neg e];exact List.mem_append_right _ (mem_famR.2 ⟨j,i,hj,e,hi,rfl⟩)
 refine Sub.ren (swp eo lo k cur t) (fun n hn=>hfx n (outN_iff.2 (.inl (by omega)))) (fun a c=>swp_inj ho a c) ?_ ?_ ?_
 · refine (renVs_fix fun n hn=>?_).symm
   have:=List.all_eq_true.1 hT n hn
   rw [Bool.and_eq_true] at this
   exact hfx n this.1
 · refine belows_names fun n hn=>?_
   have:=List.all_eq_true.1 hT n hn
   rw [Bool.and_eq_true,Nat.blt_eq] at this
   exact this.2
 · intro n c hn
   rcases List.mem_append.1 (hAt_mem hn) with hm | hm
   · rcases List.mem_append.1 hm with hm | hm
     · obtain ⟨p,hp,e⟩:=List.mem_map.1 hm
       cases e
       obtain ⟨a1,a2,a3,a4⟩:=hA p hp
       refine ⟨a2,a3,?_⟩
       rw [hfx _ a1,a4]
       exact hat _ _ (List.mem_append_left _ (List.mem_append_left _ (List.mem_map.2 ⟨p,hp,rfl⟩)))
     · have h1:=List.all_eq_true.1 hH _ hm
       rw [Bool.and_eq_true,Bool.and_eq_true,Nat.blt_eq] at h1
       have h2 : ∀ x ∈ namesB c,outN eo (lo + k * m) x = true ∧ x < b:=fun x hx=>by
        have:=List.all_eq_true.1 h1.2 x hx
        rw [Bool.and_eq_true,Nat.blt_eq] at this
        exact this
       refine ⟨h1.1.2,belowB_names fun x hx=>(h2 x hx).2,?_⟩
       rw [hfx n h1.1.1,renB_fix fun x hx=>hfx x (h2 x hx).1]
       exact hat _ _ (List.mem_append_left _ (List.mem_append_right _ hm))
   · have : ∃ j i,j < m ∧ i < k ∧ n = bs eo lo k t j + i ∧ c = bb j (bs eo lo k t j) i:=by
      rcases List.mem_append.1 hm with hm | hm
      · obtain ⟨i,h1,e⟩:=mem_famO.1 hm
        cases e
        exact ⟨t,i,ht,h1,by unfold bs;rw [if_pos rfl],by unfold bs;rw [if_pos rfl]⟩
      · obtain ⟨j,i,h1,h2,h3,e⟩:=mem_famR.1 hm
        cases e
        exact ⟨j,i,h1,h3,by unfold bs;rw [if_neg h2],by unfold bs;rw [if_neg h2]⟩
     obtain ⟨j,i,hj,hi,rfl,rfl⟩:=this
     refine ⟨(hbel j i hj hi).1,(hbel j i hj hi).2,?_⟩
     rw [swp_bs ho hi,hbun j i hj hi]
     exact hat _ _ (List.mem_append_right _ (hfam j i hj hi))
end
end Go.Proofs.YtcffiehcdadimaaGreat.Abs
