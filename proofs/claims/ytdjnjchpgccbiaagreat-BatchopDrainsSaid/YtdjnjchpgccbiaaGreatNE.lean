/- law14: a batch that runs alone in a prepared store: the law's walk. -/
import Derived.Test.YtdjnjchpgccbiaaGreatND
import Derived.Test.YtdjnjchpgccbiaaGreatFA
import Derived.Test.YtdjnjchpgccbiaaGreatHB
namespace Go.Proofs.YtdjnjchpgccbiaaGreat.Abs
open Go.Proofs
set_option maxRecDepth 10000
set_option linter.unusedSimpArgs false
set_option linter.unusedVariables false
theorem doM_isB {M : Mod} {c : Cal} (h : c.kind = 3) (z : Int) : (doM M c z).1.iss = M.iss:=by
 unfold doM batchM
 rw [if_neg (by omega),if_neg (by omega),if_pos h]
 repeat' split
 all_goals rfl
theorem modS_eq {n : Nat} {s : Sto} {S : List Item} {M : Mod} (h : RdM n s S M) (hi : M.iss = []) : M = modS n s S:=by
 obtain ⟨a,b,c,d⟩:=M
 obtain ⟨h1,h2,h3,_⟩:=h
 dsimp only at h1 h2 h3 hi
 rw [h1,h2,h3,hi];rfl
structure BAlone (n K0 : Nat) (t : Nat) (s : Sto) (S : List Item) (c : Cl) (m : Nat) (S1 : List Item) : Prop where
 m1 : 1 ≤ m ∧ m ≤ 3 * S.length + 9
 st : ∀ k,k < m → BStepL (runB (.new t c) s k).1 (runB (.new t c) s k).2 (decide (k + 1 = m)) (runB (.new t c) s (k + 1)).1 (runB (.new t c) s (k + 1)).2
 bl : ∀ k,k < m → (runB (.new t c) s (k + 1)).1.blk = false
 ef : ∀ k,k < m → (runB (.new t c) s (k + 1)).1.eff = (!(Kop.bat (runB (.new t c) s k).1).late && (Kop.bat (runB (.new t c) s (k + 1)).1).late)
 lt : ∀ k,k < m → (Kop.bat (runB (.new t c) s k).1).late = true → (Kop.bat (runB (.new t c) s (k + 1)).1).late = true
 lm : (Kop.bat (runB (.new t c) s m).1).late = true
 dn : (runB (.new t c) s m).1.done = true
 y : Rdy n (K0 + m) (runB (.new t c) s m).2 S1
 d : doM (modS n s S) c.cal 0 = (modS n (runB (.new t c) s m).2 S1,(Kop.bat (runB (.new t c) s m).1).res)
theorem bat_alone {n K0 : Nat} {s : Sto} {S : List Item} (hr : Rdy n K0 s S) (t : Nat) (c : Cl) (hc : c.k = 3) (hK : K0 + 50 ≤ 20000) : ∃ m S1,BAlone n K0 t s S c m S1:=by
 obtain ⟨m,h⟩:=alone_run hr (modS_rd n s S) t c hK
 have hS : S.length ≤ 12:=by have:=hr.ok.toSOk.len;have:=hr.ok.n12;omega
 have hm:=h.e2
 have e0 : Kop.new (t : Int) c = .bat (.new t c):=by unfold Kop.new;rw [if_neg (by rw [hc];decide),if_neg (by rw [hc];decide),if_pos hc]
 obtain ⟨S1,M1,f1,f2,f3⟩:=h.fin
 have hlt:=h.lt
 have hdn:=h.dn
 rw [e0,runK_bat] at f1 f2 f3 hlt hdn
 have f3 : doM (modS n s S) c.cal 0 = (M1,(Kop.bat (runB (.new t c) s m).1).res):=f3
 have hi:=doM_isB (M:=modS n s S) (c:=c.cal) hc 0
 rw [f3] at hi
 rw [modS_eq f2 hi] at f3
 have hl : ∀ k,k < m → LateK (.bat (runB (.new t c) s k).1) (.bat (runB (.new t c) s (k + 1)).1):=fun k hk=>by
  have h1:=(h.run k hk).2.late
  rw [e0,runK_bat,runK_bat] at h1
  exact h1
 refine ⟨m,S1,⟨h.e1,hm⟩,(bat_steps hc h hK (by omega)).1,fun k hk=>?_,fun k hk=>(hl k hk).eff,fun k hk y=>((hl k hk).keep y).1,hlt,hdn,f1,f3⟩
 have h1:=(h.run k hk).2.blk
 rw [e0,runK_bat] at h1
 exact h1
end Go.Proofs.YtdjnjchpgccbiaaGreat.Abs
