/- Insertions: the fixed example. Printed by tools/gen22.py. -/
import Derived.Test.YtcffiehcdadimaaGreatM21
namespace Go.Proofs.YtcffiehcdadimaaGreat.Abs
open Go.Proofs
set_option maxRecDepth 10000
set_option linter.unusedSimpArgs false
set_option linter.unusedVariables false
def hN : Nat → Int
 | 7 => 7
 | _ => 0
def hA : Nat → Int
 | 5 => 5
 | 6 => 5
 | 7 => 5
 | _ => 0
set_option maxHeartbeats 16000000 in
theorem head12_aux (s0 : Sto) (hs0 : LSpec Tryz.prog 84 [V.int 1] [] 0 (.p 0 10 0 0) (stoB s0 2) 5) (O : Nat → IOp) (S : Nat → Sto) (hO : O 0 = IOp.new 1 5) (hS : S 0 = s0) (hst : ∀ k, k < 7 → IStep (O k) (S k) (Nat.beq k 6) (O (k + 1)) (S (k + 1))) (hef : ∀ k, k ≤ 7 → (O k).eff = Nat.beq k 5) (hre : (O 7).re = 0 ∧ (O 7).rh = 0)
 (P : Nat → IOp) (Q : Nat → Sto) (hP : P 0 = IOp.new 2 3) (hQ : Q 0 = S 7) (hrn : ∀ k, k < 7 → IStep (P k) (Q k) (decide (k + 1 = 7)) (P (k + 1)) (Q (k + 1))) (hrp : (P 7).re = 10)
 (b1 : IOp) (hb : IStep (.new 1 (-1)) (Q 7) true b1 (Q 7)) (hbe : b1.eff = true) (hbr : b1.re = 1) (T : List Item) (hit : LSpec Tryz.prog 22 [.p 0 10 0 0] (stoB (Q 7) 2) 5 (itemsV T) (stoB (Q 7) 2) 5) (hT : T.length = 1) (hv : (Q 7).m.viol = 0) :
 PSpec Tryz.prog 42 [] (V.bool true) := by
 have hml : (T.map Item.row).length = 1 := by rw [List.length_map, hT]
 refine pspec tab_ok mix Tryz.func42 (by kernel_rfl) rfl rfl ?_
 (refine go ?_; try exact True.intro)
 refine callL hs0 [] [] rfl (go ?_)
 refine callL (iNewC s0 1 ⟨1, 5, 0, 0, 0⟩) [some 64, some 65, some 66, some 67, some 68] [] rfl (go ?_)
 refine callL (iNewC s0 1 ⟨0, -1, 0, 0, 0⟩) [some 64, some 65, some 66, some 67, some 68] [] rfl (go ?_)
 refine loopO tab_ok mix [20, 21, 22, 23, 24, 25, 26, 27, 28, 29, 30, 31] [1, 3] [704] (fun k : Nat => [(2, .p 20 16 0 0), (4, V.int (hN k)), (5, V.int (hA k)), (6, V.int ((k : Int) + 1))]) (fun k => bl12 (O k) 64 (fun x => 20 + x) ++ sto5 (S k) 64 65 1 67 68) (fun k => k ≤ 7) (fun k => 8 - k) [(1, 66), (20, 448)] 0 rfl (by omega) ?_ ?_
 · rw [hO, hS]
   (refine go ?_; try exact True.intro)
   refine boBlk (o := IOp.new 1 5) (st := 64) (ν := fun x => 20 + x) (i := 0) (fun x => match x with | 0 => 448 | x => 20 + x) ?_ (by rfl) (by rfl) (by decide) (by decide) (by decide)
   (refine go ?_; try exact True.intro)
   iterate 11 (refine BO.no rfl trivial ?_; (refine go ?_; try exact True.intro))
 intro k hk
 by_cases h7 : k = 7
 case neg =>
  have h1 := hst k (by omega)
  have h2 := hef (k + 1) (by omega)
  have h3 := iEffectC (O (k + 1)) (S (k + 1))
  rw [h2] at h3
  rcases (show k = 0 ∨ k = 1 ∨ k = 2 ∨ k = 3 ∨ k = 4 ∨ k = 5 ∨ k = 6 by omega) with rfl | rfl | rfl | rfl | rfl | rfl | rfl
  all_goals
   (refine go ?_; try exact True.intro)
   refine callO h1 [some 20, some 21, some 22, some 23, some 24, some 25, some 26, some 27, some 28, some 29, some 30, some 31, some 64, some 65, some 1, some 67, some 68] [] _ _ _ (iB0_at (ν := fun x => 20 + x) _ _ (by decide) rfl rfl rfl rfl rfl) (iB1_at (ν := fun x => match x with | 0 => 20 | x => 1856 + x) _ _ rfl (by decide) rfl rfl rfl rfl rfl) rfl rfl (go ?_)
   refine callO h3 [some 20, some 1857, some 1858, some 1859, some 1860, some 1861, some 1862, some 1863, some 1864, some 1865, some 1866, some 1867, some 64, some 65, some 1856, some 67, some 68] [] _ _ _ (iB0_at (ν := fun x => match x with | 0 => 20 | x => 1856 + x) _ _ (by decide) rfl rfl rfl rfl rfl) (iB0_at (ν := fun x => match x with | 0 => 20 | x => 1856 + x) _ _ (by decide) rfl rfl rfl rfl rfl) rfl rfl (go ?_); try exact True.intro
  refine .mk [(1, 1856), (21, 1857), (22, 1858), (23, 1859), (24, 1860), (25, 1861), (26, 1862), (27, 1863), (28, 1864), (29, 1865), (30, 1866), (31, 1867)] 1 (by omega) (by decide) ?_; rotate_left
  refine .mk [(1, 1856), (21, 1857), (22, 1858), (23, 1859), (24, 1860), (25, 1861), (26, 1862), (27, 1863), (28, 1864), (29, 1865), (30, 1866), (31, 1867)] 2 (by omega) (by decide) ?_; rotate_left
  refine .mk [(1, 1856), (21, 1857), (22, 1858), (23, 1859), (24, 1860), (25, 1861), (26, 1862), (27, 1863), (28, 1864), (29, 1865), (30, 1866), (31, 1867)] 3 (by omega) (by decide) ?_; rotate_left
  refine .mk [(1, 1856), (21, 1857), (22, 1858), (23, 1859), (24, 1860), (25, 1861), (26, 1862), (27, 1863), (28, 1864), (29, 1865), (30, 1866), (31, 1867)] 4 (by omega) (by decide) ?_; rotate_left
  refine .mk [(1, 1856), (21, 1857), (22, 1858), (23, 1859), (24, 1860), (25, 1861), (26, 1862), (27, 1863), (28, 1864), (29, 1865), (30, 1866), (31, 1867)] 5 (by omega) (by decide) ?_; rotate_left
  refine .mk [(1, 1856), (21, 1857), (22, 1858), (23, 1859), (24, 1860), (25, 1861), (26, 1862), (27, 1863), (28, 1864), (29, 1865), (30, 1866), (31, 1867)] 6 (by omega) (by decide) ?_; rotate_left
  refine .mk [(1, 1856), (21, 1857), (22, 1858), (23, 1859), (24, 1860), (25, 1861), (26, 1862), (27, 1863), (28, 1864), (29, 1865), (30, 1866), (31, 1867)] 7 (by omega) (by decide) ?_; rotate_left
  all_goals
   (refine go ?_; try exact True.intro)
   iterate 12 (refine boBlk (o := O _) (ν := fun x => 20 + x) (st := 64) (fun x => match x with | 0 => 20 | x => 1856 + x) ?_ (by rfl) (by rfl) (by decide) (by decide) (by decide); (refine go ?_; try exact True.intro))
 · subst h7
   (refine go ?_; try exact True.intro)
   refine callL (iNewC (S 7) 2 ⟨0, 3, 0, 0, 0⟩) [some 64, some 65, some 1, some 67, some 68] [] rfl (go ?_)
   have h1 := iRunC P Q 7 (by decide) hrn
   rw [hP, hQ] at h1
   refine callO h1 [some 1920, none, none, none, none, none, none, none, none, none, none, none, some 64, some 65, some 1, some 67, some 68] [] _ _ _ (iB0_at (ν := fun x => match x with | 0 => 1920 | x => 2272 + x) (IOp.new 2 3) (S 7) (by decide) rfl rfl rfl rfl rfl) (iB1_at (ν := fun x => match x with | 0 => 1920 | x => 2240 + x) (P 7) (Q 7) rfl (by decide) rfl rfl rfl rfl rfl) rfl rfl (go ?_)
   have r1 := iResultC (O 7) (Q 7)
   rw [hre.1, hre.2] at r1
   refine callO r1 [some 20, some 21, some 22, some 23, some 24, some 25, some 26, some 27, some 28, some 29, some 30, some 31, some 64, some 65, some 2240, some 67, some 68] [] _ _ _ (iB0_at (ν := fun x => 20 + x) (O 7) (Q 7) (by decide) rfl rfl rfl rfl rfl) (iB0_at (ν := fun x => 20 + x) (O 7) (Q 7) (by decide) rfl rfl rfl rfl rfl) rfl rfl (go ?_)
   refine callO r1 [some 20, some 21, some 22, some 23, some 24, some 25, some 26, some 27, some 28, some 29, some 30, some 31, some 64, some 65, some 2240, some 67, some 68] [] _ _ _ (iB0_at (ν := fun x => 20 + x) (O 7) (Q 7) (by decide) rfl rfl rfl rfl rfl) (iB0_at (ν := fun x => 20 + x) (O 7) (Q 7) (by decide) rfl rfl rfl rfl rfl) rfl rfl (go ?_)
   have r2 := iResultC (P 7) (Q 7)
   rw [hrp] at r2
   refine callO r2 [some 1920, some 2241, some 2242, some 2243, some 2244, some 2245, some 2246, some 2247, some 2248, some 2249, some 2250, some 2251, some 64, some 65, some 2240, some 67, some 68] [] _ _ _ (iB0_at (ν := fun x => match x with | 0 => 1920 | x => 2240 + x) (P 7) (Q 7) (by decide) rfl rfl rfl rfl rfl) (iB0_at (ν := fun x => match x with | 0 => 1920 | x => 2240 + x) (P 7) (Q 7) (by decide) rfl rfl rfl rfl rfl) rfl rfl (go ?_)
   refine callO hb [some 704, none, none, none, none, none, none, none, none, none, none, none, some 64, some 65, some 2240, some 67, some 68] [] _ _ _ (iB0_at (ν := fun x => match x with | 0 => 704 | x => 4320 + x) (IOp.new 1 (-1)) (Q 7) (by decide) rfl rfl rfl rfl rfl) (iB1_at (ν := fun x => match x with | 0 => 704 | x => 4288 + x) b1 (Q 7) rfl (by decide) rfl rfl rfl rfl rfl) rfl rfl (go ?_)
   have r3 := iEffectC b1 (Q 7)
   rw [hbe] at r3
   refine callO r3 [some 704, some 4289, some 4290, some 4291, some 4292, some 4293, some 4294, some 4295, some 4296, some 4297, some 4298, some 4299, some 64, some 65, some 4288, some 67, some 68] [] _ _ _ (iB0_at (ν := fun x => match x with | 0 => 704 | x => 4288 + x) b1 (Q 7) (by decide) rfl rfl rfl rfl rfl) (iB0_at (ν := fun x => match x with | 0 => 704 | x => 4288 + x) b1 (Q 7) (by decide) rfl rfl rfl rfl rfl) rfl rfl (go ?_)
   have r4 := iResultC b1 (Q 7)
   rw [hbr] at r4
   refine callO r4 [some 704, some 4289, some 4290, some 4291, some 4292, some 4293, some 4294, some 4295, some 4296, some 4297, some 4298, some 4299, some 64, some 65, some 4288, some 67, some 68] [] _ _ _ (iB0_at (ν := fun x => match x with | 0 => 704 | x => 4288 + x) b1 (Q 7) (by decide) rfl rfl rfl rfl rfl) (iB0_at (ν := fun x => match x with | 0 => 704 | x => 4288 + x) b1 (Q 7) (by decide) rfl rfl rfl rfl rfl) rfl rfl (go ?_)
   refine callL hit [some 64, some 65, some 4288, some 67, some 68] [] rfl (go ?_)
   rw [hml]
   (refine go ?_; try exact True.intro)
   refine callL (memoryC (Q 7)) [some 64, some 65, some 4288, some 67, some 68] [] rfl (go ?_)
   have r5 := violC (Q 7).m
   rw [hv] at r5
   refine callL r5 [some 65, some 4288, some 67, some 68] [] rfl (go ?_)
   exact .same rfl
end Go.Proofs.YtcffiehcdadimaaGreat.Abs
