/- Insertions of many threads: the bundles of blocks, the arrays of calls. -/
import Derived.Test.YtcffiehcdadimaaGreatMB
import Derived.Test.YtcffiehcdadimaaGreatME
namespace Go.Proofs.YtcffiehcdadimaaGreat.Abs
open Go.Proofs
set_option maxRecDepth 10000
set_option linter.unusedSimpArgs false
set_option linter.unusedVariables false
theorem nxV_cong (pc : PC) {ν μ : Nat → Nat} (h : ∀ x,x < 12 → ν x = μ x) : nxV pc ν = nxV pc μ:=by
 cases pc <;> simp [nxV,fnO,fnT,pO,pB,h 0 (by omega),h 2 (by omega),h 3 (by omega),h 4 (by omega),h 5 (by omega)]
theorem blk_cong (o : IOp) (st : Nat) (ν μ : Nat → Nat) (i : Nat) (h : ∀ x,x < 12 → ν x = μ x) : o.blkB st ν i = o.blkB st μ i:=by
 obtain ⟨th,t,pc,hd,hh,e,ok,ef,bl⟩:=o
 have g0:=h 0 (by omega);have g1:=h 1 (by omega);have g2:=h 2 (by omega);have g3:=h 3 (by omega);have g4:=h 4 (by omega);have g5:=h 5 (by omega)
 have g6:=h 6 (by omega);have g7:=h 7 (by omega);have g8:=h 8 (by omega);have g9:=h 9 (by omega);have g10:=h 10 (by omega);have g11:=h 11 (by omega)
 unfold IOp.blkB
 dsimp only
 split
 · unfold opR
   dsimp only
   rw [nxV_cong pc h]
   cases ok <;> simp [ptV,pB,g1,g10,g11]
 · rfl
 all_goals first
  | rfl
  | (cases pc <;> simp [boxO,boxM,boxT,boxN,boxX,pO,pB,fnT,fnO,g0,g2,g3,g4,g5,g6,g7,g8,g9])
  | (cases ok <;> simp [boxP,pO,g0])
def arr4 (f : Nat → V) : List V:=[f 0,f 1,f 2,f 3]
theorem arr4_get (f : Nat → V) {t : Nat} (ht : t < 4) : (arr4 f)[t]? = some (f t):=by
 rcases (show t = 0 ∨ t = 1 ∨ t = 2 ∨ t = 3 by omega) with rfl | rfl | rfl | rfl <;> rfl
theorem arr4_set (f : Nat → V) {t : Nat} (ht : t < 4) (v : V) : spliceV (arr4 f) t [v] = arr4 (upd f t v):=by
 rcases (show t = 0 ∨ t = 1 ∨ t = 2 ∨ t = 3 by omega) with rfl | rfl | rfl | rfl <;> rfl
theorem arr4_congr {f g : Nat → V} (h : ∀ j,j < 4 → f j = g j) : arr4 f = arr4 g:=by
 unfold arr4
 rw [h 0 (by omega),h 1 (by omega),h 2 (by omega),h 3 (by omega)]
def ptrI {α : Type} (o : Option α) (n z : Nat) : V:=match o with
 | none=>.c (.pointer none)
 | some _=>.p n z 0 0
def arrP {α : Type} (cs : Nat → Option α) (z off k cur : Nat) : B:=.rows 4 [arr4 fun j=>ptrI (cs j) (bs 20 40 k cur j + off) z]
theorem ptrI_ren {α : Type} (o : Option α) (n z : Nat) (σ : Nat → Nat) : renV σ (ptrI o n z) = ptrI o (σ n) z:=by
 cases o <;> rfl
theorem arrP_ren {α : Type} (cs : Nat → Option α) {z off k cur t : Nat} (hk : 20 + k ≤ 40) (ho : off < k) : renB (swp 20 40 k cur t) (arrP cs z off k t) = arrP cs z off k cur:=by
 unfold arrP arr4
 simp only [renB,List.map_cons,List.map_nil,renVs,ptrI_ren,swp_bs hk ho]
theorem arrP_below {α : Type} (cs : Nat → Option α) {z off k cur b : Nat} (ho : off < k) (hb : 40 + k * 4 ≤ b) (h20 : 20 + k ≤ 40) : (arrP cs z off k cur).Below (Lt b):=by
 refine belowB_names fun n hn=>?_
 have hp : ∀ j,j < 4 → ∀ n ∈ nameOf (ptrI (cs j) (bs 20 40 k cur j + off) z),n < b:=fun j hj n hn=>by
  have h1 : k * j + k ≤ k * 4:=by rw [← Nat.mul_succ];exact Nat.mul_le_mul_left k hj
  cases hc : cs j with
  | none=>rw [hc] at hn;simp [ptrI,nameOf] at hn
  | some o=>
   rw [hc] at hn
   simp only [ptrI,nameOf,List.mem_singleton] at hn
   subst hn
   unfold bs;split <;> omega
 simp only [arrP,arr4,namesB,List.flatMap_cons,List.flatMap_nil,List.append_nil,namesOf,List.mem_append] at hn
 rcases hn with h | h | h | h
 · exact hp 0 (by omega) n h
 · exact hp 1 (by omega) n h
 · exact hp 2 (by omega) n h
 · exact hp 3 (by omega) n h
theorem arr_some {α : Type} {cs : Nat → Option α} {t : Nat} {o : α} (h : cs t = some o) (ht : t < 4) {z off k sz m : Nat} (hz : sz = 1) (hm : m = 20 + off) : (arr4 fun j=>ptrI (cs j) (bs 20 40 k t j + off) z)[0 + t * sz]? = some (.p m z 0 0):=by
 subst hz hm
 rw [show 0 + t * 1 = t by omega,arr4_get _ ht,h,bs,if_pos rfl];rfl
theorem arr_none {α : Type} {cs : Nat → Option α} {t : Nat} (h : cs t = none) (ht : t < 4) {z off k sz : Nat} (hz : sz = 1) : (arr4 fun j=>ptrI (cs j) (bs 20 40 k t j + off) z)[0 + t * sz]? = some (.c (.pointer none)):=by
 subst hz
 rw [show 0 + t * 1 = t by omega,arr4_get _ ht,h];rfl
theorem okPut {f : Nat → V} {t : Nat} (ht : t < 4) {sz : Nat} (hz : sz = 1) {x : V} : (0 + t * sz + [x].length).ble (arr4 f).length = true:=by
 subst hz
 rw [Nat.ble_eq]
 show 0 + t * 1 + 1 ≤ 4
 omega
theorem arr_put {f : Nat → V} {t : Nat} (ht : t < 4) {sz : Nat} (hz : sz = 1) (v : V) : spliceV (arr4 f) (0 + t * sz) [v] = arr4 (upd f t v):=by
 subst hz
 rw [show 0 + t * 1 = t by omega,arr4_set _ ht]
theorem arr_upd {f : Nat → V} {t : Nat} (ht : t < 4) {sz : Nat} (hz : sz = 1) (v : V) : (arr4 (upd f t v))[0 + t * sz]? = some v:=by
 subst hz
 rw [show 0 + t * 1 = t by omega,arr4_get _ ht,upd_same]
theorem upd_upd {α : Type} (f : Nat → α) (t : Nat) (v w : α) : upd (upd f t v) t w = upd f t w:=by
 funext j
 by_cases e : j = t
 · subst e;rw [upd_same,upd_same]
 · rw [upd_ne _ _ _ _ e,upd_ne _ _ _ _ e,upd_ne _ _ _ _ e]
theorem arrG {α : Type} {cs : Nat → Option α} {o : Option α} {t z off k : Nat} {ρ : List (Nat × Nat)} {g : Nat → V} (hρ : (ρ.all fun p=>outN 40 (40 + k * 4) p.1) = true) (hk : off < k) (hg : ∀ j,j ≠ t → g j = ptrI (cs j) (bs 20 40 k t j + off) z)
 (ht : g t = match o with | none=>.c (.pointer none) | some _=>.p (ren1 ρ (20 + off)) z 0 0) : B.rows 4 [arr4 g] = renB (ren1 ρ) (arrP (upd cs t o) z off k t):=by
 have h : ∀ j,j < 4 → g j = renV (ren1 ρ) (ptrI (upd cs t o j) (bs 20 40 k t j + off) z):=fun j hj=>by
  rw [ptrI_ren]
  by_cases e : j = t
  · subst e
    rw [ht,upd_same,bs,if_pos rfl]
    cases o <;> rfl
  · rw [hg j e,upd_ne _ _ _ _ e,bs,if_neg e]
    have h1 : k * j + k ≤ k * 4:=by rw [← Nat.mul_succ];exact Nat.mul_le_mul_left k hj
    rw [ren1_out hρ (by omega) (by omega)]
 unfold arrP
 rw [arr4_congr h]
 rfl
theorem arr_kept {α : Type} {cs : Nat → Option α} {t z off k : Nat} {ρ : List (Nat × Nat)} (hρ : (ρ.all fun p=>outN 40 (40 + k * 4) p.1) = true) (hk : off < k) {o o' : α} (ho : cs t = some o) (hr : ren1 ρ (20 + off) = 20 + off) :
 B.rows 4 [arr4 fun j=>ptrI (cs j) (bs 20 40 k t j + off) z] = renB (ren1 ρ) (arrP (upd cs t (some o')) z off k t):=by
 refine arrG hρ hk (fun j _=>rfl) ?_
 rw [ho,bs,if_pos rfl]
 show V.p (20 + off) z 0 0 = V.p (ren1 ρ (20 + off)) z 0 0
 rw [hr]
theorem arr_made {α : Type} {cs : Nat → Option α} {t z off k : Nat} {ρ : List (Nat × Nat)} {v : V} (hρ : (ρ.all fun p=>outN 40 (40 + k * 4) p.1) = true) (hk : off < k) {o : Option α} (hv : v = match o with | none=>.c (.pointer none) | some _=>.p (ren1 ρ (20 + off)) z 0 0) :
 B.rows 4 [arr4 (upd (fun j=>ptrI (cs j) (bs 20 40 k t j + off) z) t v)] = renB (ren1 ρ) (arrP (upd cs t o) z off k t):=
 arrG hρ hk (fun j e=>upd_ne _ _ _ _ e) (by rw [upd_same];exact hv)
def bl12 (o : IOp) (st : Nat) (ν : Nat → Nat) : List (Nat × B):=[(ν 0,o.blkB st ν 0),(ν 1,o.blkB st ν 1),(ν 2,o.blkB st ν 2),(ν 3,o.blkB st ν 3),(ν 4,o.blkB st ν 4),(ν 5,o.blkB st ν 5),(ν 6,o.blkB st ν 6),(ν 7,o.blkB st ν 7),(ν 8,o.blkB st ν 8),(ν 9,o.blkB st ν 9),(ν 10,o.blkB st ν 10),(ν 11,o.blkB st ν 11)]
def sto5 (s : Sto) (a b l c d : Nat) : List (Nat × B):=[(a,.rows 10 [stoC s b]),(b,memR s.m l c d),(l,logD s.m),(c,wordsD s.m),(d,mtxD s.m)]
theorem iB0_at (o : IOp) (s : Sto) {σ ν : Nat → Nat} {st b l c d : Nat} (hν : ∀ x,x < 12 → σ x = ν x) (h1 : σ 12 = st) (h2 : σ 13 = b) (h3 : σ 14 = l) (h4 : σ 15 = c) (h5 : σ 16 = d) :
 (iB0 o s).map (fun p=>(σ p.1,renB σ p.2)) = bl12 o st ν ++ sto5 s st b l c d:=by
 subst h1 h2 h3 h4 h5
 have hb : ∀ x,x < 12 → ((σ x,renB σ (o.blkB 12 (fun i=>i) x)) : Nat × B) = (ν x,o.blkB (σ 12) ν x):=fun x hx=>by
  rw [hν x hx,blk_ren,blk_cong o (σ 12) (fun i=>σ i) ν x hν]
 show [((σ 0,renB σ (o.blkB 12 (fun i=>i) 0)) : Nat × B),(σ 1,renB σ (o.blkB 12 (fun i=>i) 1)),(σ 2,renB σ (o.blkB 12 (fun i=>i) 2)),(σ 3,renB σ (o.blkB 12 (fun i=>i) 3)),(σ 4,renB σ (o.blkB 12 (fun i=>i) 4)),(σ 5,renB σ (o.blkB 12 (fun i=>i) 5)),
  (σ 6,renB σ (o.blkB 12 (fun i=>i) 6)),(σ 7,renB σ (o.blkB 12 (fun i=>i) 7)),(σ 8,renB σ (o.blkB 12 (fun i=>i) 8)),(σ 9,renB σ (o.blkB 12 (fun i=>i) 9)),(σ 10,renB σ (o.blkB 12 (fun i=>i) 10)),(σ 11,renB σ (o.blkB 12 (fun i=>i) 11))] ++ _ = _
 rw [hb 0 (by omega),hb 1 (by omega),hb 2 (by omega),hb 3 (by omega),hb 4 (by omega),hb 5 (by omega),hb 6 (by omega),hb 7 (by omega),hb 8 (by omega),hb 9 (by omega),hb 10 (by omega),hb 11 (by omega)]
 rfl
theorem iB1_at (o : IOp) (s : Sto) {σ ν : Nat → Nat} {st b l c d : Nat} (h0 : σ 0 = ν 0) (hν : ∀ x,x < 11 → σ (18 + x) = ν (x + 1)) (h1 : σ 12 = st) (h2 : σ 13 = b) (h3 : σ 17 = l) (h4 : σ 15 = c) (h5 : σ 16 = d) :
 (iB1 o s).map (fun p=>(σ p.1,renB σ p.2)) = bl12 o st ν ++ sto5 s st b l c d:=by
 subst h1 h2 h3 h4 h5
 have hμ : ∀ x,x < 12 → σ (nu1 x) = ν x:=fun x hx=>by
  cases x with
  | zero=>exact h0
  | succ x=>exact hν x (by omega)
 have hb : ∀ x,x < 12 → ((σ (nu1 x),renB σ (o.blkB 12 nu1 x)) : Nat × B) = (ν x,o.blkB (σ 12) ν x):=fun x hx=>by
  rw [hμ x hx,blk_ren,blk_cong o (σ 12) (fun i=>σ (nu1 i)) ν x hμ]
 show [((σ (nu1 0),renB σ (o.blkB 12 nu1 0)) : Nat × B),(σ (nu1 1),renB σ (o.blkB 12 nu1 1)),(σ (nu1 2),renB σ (o.blkB 12 nu1 2)),(σ (nu1 3),renB σ (o.blkB 12 nu1 3)),(σ (nu1 4),renB σ (o.blkB 12 nu1 4)),(σ (nu1 5),renB σ (o.blkB 12 nu1 5)),
  (σ (nu1 6),renB σ (o.blkB 12 nu1 6)),(σ (nu1 7),renB σ (o.blkB 12 nu1 7)),(σ (nu1 8),renB σ (o.blkB 12 nu1 8)),(σ (nu1 9),renB σ (o.blkB 12 nu1 9)),(σ (nu1 10),renB σ (o.blkB 12 nu1 10)),(σ (nu1 11),renB σ (o.blkB 12 nu1 11))] ++ _ = _
 rw [hb 0 (by omega),hb 1 (by omega),hb 2 (by omega),hb 3 (by omega),hb 4 (by omega),hb 5 (by omega),hb 6 (by omega),hb 7 (by omega),hb 8 (by omega),hb 9 (by omega),hb 10 (by omega),hb 11 (by omega)]
 rfl
theorem boBlk {m : Nat} {o : IOp} {st : Nat} {ν : Nat → Nat} {i b : Nat} {ρ : Nat → Nat} {B' : Option B} {K : Prop} (μ : Nat → Nat) (k : K) (hB : B' = some (o.blkB st μ i)) (hst : ρ st = st) (hν : ∀ x,x < 12 → ρ (ν x) = μ x) (hb : ∀ x,x < 12 → ν x < b) (hs : st < b) : BO ρ b ((m,o.blkB st ν i) : Nat × B).2 B' K:=by
 refine .mk _ hB ?_ ?_ k
 · rw [blk_ren,hst]
   exact (blk_cong o st _ _ i hν).symm
 · refine belowB_names fun n hn=>?_
   rcases blk_names _ _ _ _ n hn with ⟨x,hx,e⟩ | e
   · rw [e];exact hb x hx
   · rw [e];exact hs
end Go.Proofs.YtcffiehcdadimaaGreat.Abs
