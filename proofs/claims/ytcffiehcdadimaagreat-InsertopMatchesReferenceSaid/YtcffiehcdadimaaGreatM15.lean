/- Insertions: what calls show. -/
import Derived.Test.YtcffiehcdadimaaGreatM14
namespace Go.Proofs.YtcffiehcdadimaaGreat.Abs
open Go.Proofs
set_option maxRecDepth 10000
set_option linter.unusedSimpArgs false
set_option linter.unusedVariables false
theorem belowL_of {L : List (Nat × B)} {b : Nat} (h : (L.all fun p => Nat.blt p.1 b && (namesB p.2).all fun n => Nat.blt n b) = true) : ∀ p ∈ L, p.1 < b ∧ p.2.Below (Lt b) := by
 intro p hp
 have h1 := List.all_eq_true.1 h p hp
 rw [Bool.and_eq_true, Nat.blt_eq] at h1
 exact ⟨h1.1, belowB_names fun n hn => by have := List.all_eq_true.1 h1.2 n hn; rwa [Nat.blt_eq] at this⟩
theorem iB0_below (o : IOp) (s : Sto) : ∀ p ∈ iB0 o s, p.1 < 17 ∧ p.2.Below (Lt 17) := by
 intro p hp
 rcases List.mem_append.1 hp with hp | hp
 · obtain ⟨i, hi, rfl⟩ := List.mem_map.1 hp
   have := List.mem_range.1 hi
   refine ⟨by dsimp only; omega, belowB_names fun n hn => ?_⟩
   rcases blk_names o 12 (fun i => i) i n hn with ⟨j, hj, rfl⟩ | rfl <;> omega
 · exact belowL_of (L := stoAt s 12 14) rfl p hp
theorem iEffectC (o : IOp) (s : Sto) : LSpec Tryz.prog 49 [.p 0 16 0 0] (iB0 o s) 17 (V.bool o.eff) (iB0 o s) 17 := by
 refine lspecO ((iB0 o s).map fun p : Nat × B => p.1) tab_ok mix Tryz.func49 (by kernel_rfl) (by rfl) (iB0_below o s) (by rfl) (by rfl) (go ?_)
 exact retR (iB0_below o s) rfl (fun K k => go k) (go True.intro)
theorem iBlockedC (o : IOp) (s : Sto) : LSpec Tryz.prog 48 [.p 0 16 0 0] (iB0 o s) 17 (V.bool o.blk) (iB0 o s) 17 := by
 refine lspecO ((iB0 o s).map fun p : Nat × B => p.1) tab_ok mix Tryz.func48 (by kernel_rfl) (by rfl) (iB0_below o s) (by rfl) (by rfl) (go ?_)
 exact retR (iB0_below o s) rfl (fun K k => go k) (go True.intro)
def IOp.re (o : IOp) : Int := match o.pc with | .ret => o.e | _ => 0
def IOp.rh (o : IOp) : Int := match o.pc with | .ret => o.h | _ => 0
def iRes (e h : Int) : V := .agg [V.int e, V.int h, V.bool false, nilS]
theorem iResultC (o : IOp) (s : Sto) : LSpec Tryz.prog 50 [.p 0 16 0 0] (iB0 o s) 17 (iRes o.re o.rh) (iB0 o s) 17 := by
 refine lspecO ((iB0 o s).map fun p : Nat × B => p.1) tab_ok mix Tryz.func50 (by kernel_rfl) (by rfl) (iB0_below o s) (by rfl) (by rfl) (go ?_)
 exact retR (iB0_below o s) rfl (fun K k => go k) (go True.intro)
theorem rIResultC (o : IOp) (th : Int) (c : Cl) : LSpec Tryz.prog 56 [.p 0 20 0 0] [(0, rI 1 th c o.ri)] 2 (iRes o.re o.rh) [(0, rI 1 th c o.ri)] 2 := by
 obtain ⟨tt, t, pc, hd, h, e, ok, ef, bl⟩ := o
 cases pc <;> (
  refine lspec tab_ok mix Tryz.func56 (by kernel_rfl) (by rfl) (by rfl) (by rfl) (by rfl) ?_
  (refine go ?_; try exact True.intro)
  refine .mk [] ?_
  (refine go ?_; try exact True.intro))
end Go.Proofs.YtcffiehcdadimaaGreat.Abs
