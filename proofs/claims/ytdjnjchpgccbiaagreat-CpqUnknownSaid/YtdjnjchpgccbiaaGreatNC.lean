/- Batches: the names in a call's blocks; what a batch shows. -/
import Derived.Test.YtdjnjchpgccbiaaGreatNB
import Derived.Test.YtdjnjchpgccbiaaGreatMB
import Derived.Test.YtdjnjchpgccbiaaGreatOC
import Derived.Test.YtdjnjchpgccbiaaGreatHB
namespace Go.Proofs.YtdjnjchpgccbiaaGreat.Abs
open Go.Proofs
set_option maxRecDepth 10000
set_option linter.unusedSimpArgs false
set_option linter.unusedVariables false
def BOp.blkB (o : BOp) (st : Nat) (ν : Nat → Nat) (i : Nat) : B:=
 match i with
 | 0=>ZpI o st (ν 1) (ν 2)
 | 1=>Zq9 o
 | 2=>evB o
 | _=>noB
theorem Zoc (l : List Int) (k n : Nat) (σ : Nat → Nat) : ZZ σ (Zr4 l k n) = Zr4 l k (σ n):=by cases k <;> rfl
theorem Zmr (z : Bool) (l : List (Int × Int)) (n : Nat) (σ : Nat → Nat) : ZZ σ (rvV z l n) = rvV z l (σ n):=by cases z <;> rfl
theorem Zf3 (o : BOp) (st : Nat) (ν σ : Nat → Nat) (i : Nat) : ZC σ (o.blkB st ν i) = o.blkB (σ st) (fun i=>σ (ν i)) i:=by
 unfold BOp.blkB
 split
 · unfold ZpI
   simp only [ZC,List.map_cons,List.map_nil,ZbM,Zoc,Zmr]
   rfl
 · rfl
 · rfl
 · rfl
theorem ZjM (l : List Int) (k n m : Nat) (h : m ∈ Zc (Zr4 l k n)) : m = n:=by cases k <;> simpa [Zr4,Zc] using h
theorem Zl6 (z : Bool) (l : List (Int × Int)) (n m : Nat) (h : m ∈ Zc (rvV z l n)) : m = n:=by
 cases z
 · simp [rvV,Zc] at h
 · simpa [rvV,evV,Zc] using h
theorem ZjN (o : BOp) (st : Nat) (ν : Nat → Nat) (i : Nat) : ∀ n ∈ ZR (o.blkB st ν i),(∃ j,j < 3 ∧ n = ν j) ∨ n = st:=by
 intro n hn
 unfold BOp.blkB at hn
 split at hn
 · unfold ZpI at hn
   simp only [ZR,List.flatMap_cons,List.flatMap_nil,List.append_nil,Zp,List.mem_append,List.nil_append] at hn
   have hI : ∀ x,n ∉ Zc (V.int x):=fun x h=>by simp [V.int,Zc] at h
   have hB : ∀ x,n ∉ Zc (V.bool x):=fun x h=>by simp [V.bool,Zc] at h
   rcases hn with h | h | h | h | h | h | h | h | h | h | h | h | h | h | h | h | h | h | h | h | h | h | h
   all_goals first
    | exact absurd h (hI _)
    | exact absurd h (hB _)
    | exact .inr (by simpa [Zc] using h)
    | exact .inl ⟨1,by omega,ZjM _ _ _ _ h⟩
    | exact .inl ⟨2,by omega,Zl6 _ _ _ _ h⟩
    | exact .inl ⟨2,by omega,by simpa [evV,Zc] using h⟩
    | exact absurd h (by simp)
 · simp [Zq9,ZR] at hn
 · simp [evB,ZR] at hn
 · simp [noB,ZR] at hn
theorem Zd3 (o : BOp) (st : Nat) (ν μ : Nat → Nat) (i : Nat) (h : ∀ x,x < 3 → ν x = μ x) : o.blkB st ν i = o.blkB st μ i:=by
 unfold BOp.blkB
 split
 · rw [h 1 (by omega),h 2 (by omega)]
 all_goals rfl
def bl3 (o : BOp) (st : Nat) (ν : Nat → Nat) : List (Nat × B):=[(ν 0,o.blkB st ν 0),(ν 1,o.blkB st ν 1),(ν 2,o.blkB st ν 2)]
theorem ZsB (o : BOp) (s : Sto) {σ ν : Nat → Nat} {st b l c d : Nat} (hν : ∀ x,x < 3 → σ x = ν x) (h1 : σ 3 = st) (h2 : σ 4 = b) (h3 : σ 5 = l) (h4 : σ 6 = c) (h5 : σ 7 = d) :
 (bB0 o s).map (fun p=>(σ p.1,ZC σ p.2)) = bl3 o st ν ++ Zph s st b l c d:=by
 subst h1 h2 h3 h4 h5
 have hb : ∀ x,x < 3 → ((σ x,ZC σ (o.blkB 3 (fun i=>i) x)) : Nat × B) = (ν x,o.blkB (σ 3) ν x):=fun x hx=>by
  rw [hν x hx,Zf3,Zd3 o (σ 3) (fun i=>σ i) ν x hν]
 show [((σ 0,ZC σ (o.blkB 3 (fun i=>i) 0)) : Nat × B),(σ 1,ZC σ (o.blkB 3 (fun i=>i) 1)),(σ 2,ZC σ (o.blkB 3 (fun i=>i) 2))] ++ _ = _
 rw [hb 0 (by omega),hb 1 (by omega),hb 2 (by omega)]
 rfl
def nuB (i : Nat) : Nat:=match i with
 | 0=>0
 | i + 1=>8 + i
theorem Zr0 (o : BOp) (s : Sto) {σ ν : Nat → Nat} {st b l c d : Nat} (h0 : σ 0 = ν 0) (hν : ∀ x,x < 2 → σ (8 + x) = ν (x + 1)) (h1 : σ 3 = st) (h2 : σ 4 = b) (h3 : σ 10 = l) (h4 : σ 6 = c) (h5 : σ 7 = d) :
 (bB1 o s).map (fun p=>(σ p.1,ZC σ p.2)) = bl3 o st ν ++ Zph s st b l c d:=by
 subst h1 h2 h3 h4 h5
 have hμ : ∀ x,x < 3 → σ (nuB x) = ν x:=fun x hx=>by
  cases x with
  | zero=>exact h0
  | succ x=>exact hν x (by omega)
 have hb : ∀ x,x < 3 → ((σ (nuB x),ZC σ (o.blkB 3 nuB x)) : Nat × B) = (ν x,o.blkB (σ 3) ν x):=fun x hx=>by
  rw [hμ x hx,Zf3,Zd3 o (σ 3) (fun i=>σ (nuB i)) ν x hμ]
 show [((σ (nuB 0),ZC σ (o.blkB 3 nuB 0)) : Nat × B),(σ (nuB 1),ZC σ (o.blkB 3 nuB 1)),(σ (nuB 2),ZC σ (o.blkB 3 nuB 2))] ++ _ = _
 rw [hb 0 (by omega),hb 1 (by omega),hb 2 (by omega)]
 rfl
set_option maxHeartbeats 1000000
end Go.Proofs.YtdjnjchpgccbiaaGreat.Abs
